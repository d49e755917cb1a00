-- Written by a program of this session, out of Lean's print of the translation. Not trusted: Lean checks it.
import Derived.Test.YtnflbjdmbaaokaaMFnExactGenDegenx0
import Derived.Test.YtnflbjdmbaaokaaMFnExactGenDegenx1
import Derived.Test.YtnflbjdmbaaokaaMFnExactGenDegenx6
import Derived.Test.YtnflbjdmbaaokaaMFnExactGenDegenx7
import Derived.Test.YtnflbjdmbaaokaaMFnExactGenDegenx11
import Derived.Test.YtnflbjdmbaaokaaMFnExactGenDegenx12
namespace Go.Proofs.Ytnflbjdmbaaokaa.MFnExactGenDegen
open Go.RowKit Go.Proofs.YtnflbjdmbaaokaaW.PrintWords Go.Proofs.YtnflbjdmbaaokaaW.PrintLast Go.Proofs.YtnflbjdmbaaokaaW.PrintMore Go.Proofs.Ytnflbjdmbaaokaa.Short6
attribute [local go_sem] max2_int min2_int max_two min_two max_three min_three max_four min_four   -- for this text's walks alone
set_option linter.unusedVariables false
set_option linter.unusedSimpArgs false


/-! ### laws_FnExactGenDegen: function 3 -/
mutual
def laws_FnExactGenDegen.j0 : Nat → Bool → Bool → Bool → Int → Int → Int → Int → List (S65) → Int → Int → Int → List (S48) → Int → Int → Int → Int → List (S46) → Int → Int → Int → List (S48) → Option (Bool)
 | 0, _, _, _, _, _, _, _, _, _, _, _, _, _, _, _, _, _, _, _, _, _ => none
 | k + 1, x5, x8, x40, x348000, x348001, x348002, x348003, x348004, x364000, x364001, x364002, x364003, x372000, x372001, x372002, x372003, x372004, x380000, x380001, x380002, x380003 => if x40 = true then (some false) else ((laws_toGen.f k x348000 x348001 x348002 x348003 x348004).bind fun bt381 => ((laws_eqGen.f k x372000 x372001 x372002 x372003 x372004 bt381.1 bt381.2.1 bt381.2.2.1 bt381.2.2.2.1 bt381.2.2.2.2).bind fun t388 => (if t388 = true then ((laws_markGen.f k x372000 x372001 x372002 x372003 x372004 1).bind fun bt389 => (if bt389.1 < 0 then (laws_FnExactGenDegen.j1 k x5 true x348000 x348001 x348002 x348003 x348004 x364000 x364001 x364002 x364003 x380000 x380001 x380002 x380003) else ((laws_eqAuto.f k x380000 x380001 x380002 x380003 x364000 x364001 x364002 x364003).bind fun t391 => (if t391 = true then (laws_FnExactGenDegen.j1 k x5 (x8 != x5) x348000 x348001 x348002 x348003 x348004 x364000 x364001 x364002 x364003 x380000 x380001 x380002 x380003) else (laws_FnExactGenDegen.j1 k x5 true x348000 x348001 x348002 x348003 x348004 x364000 x364001 x364002 x364003 x380000 x380001 x380002 x380003))))) else (some false))))
def laws_FnExactGenDegen.j1 : Nat → Bool → Bool → Int → Int → Int → Int → List (S65) → Int → Int → Int → List (S48) → Int → Int → Int → List (S48) → Option (Bool)
 | 0, _, _, _, _, _, _, _, _, _, _, _, _, _, _, _ => none
 | k + 1, x5, x61, x348000, x348001, x348002, x348003, x348004, x364000, x364001, x364002, x364003, x380000, x380001, x380002, x380003 => if x61 = true then (some false) else ((laws_markAuto.f k x380000 x380001 x380002 x380003 1).bind fun bt392 => ((laws_heldAuto.f k x380000 x380001 x380002 bt392.2 1).bind fun t394 => (if t394 < 0 then (some false) else (if t394 = bt392.1 then ((laws_toGen.f k x348000 x348001 x348002 x348003 x348004).bind fun bt395 => ((impl_GenDegen.f k bt395.1 bt395.2.1 bt395.2.2.1 bt395.2.2.2.1 bt395.2.2.2.2).bind fun bt402 => ((laws_eqAuto.f k bt402.1 bt402.2.1 bt402.2.2.1 bt402.2.2.2.1 x364000 x364001 x364002 x364003).bind fun t410 => (if t410 = true then (laws_FnExactGenDegen.j2 k bt392.1 (bt402.2.2.2.2 != x5) x380000 x380001 x380002 bt392.2) else (laws_FnExactGenDegen.j2 k bt392.1 true x380000 x380001 x380002 bt392.2))))) else (some false)))))
def laws_FnExactGenDegen.j2 : Nat → Int → Bool → Int → Int → Int → List (S48) → Option (Bool)
 | 0, _, _, _, _, _, _ => none
 | k + 1, x10, x87, x380000, x380001, x380002, x380003 => if x87 = true then (some false) else ((laws_heldAuto.f k x380000 x380001 x380002 x380003 1).bind fun t411 => (if t411 < 0 then (some false) else (if t411 = x10 then (some true) else (some false))))
end
def laws_FnExactGenDegen.f (k : Nat) (a0_0 : Int) (a0_1 : Int) (a0_2 : Int) (a0_3 : Int) (l0_4 : List (S65)) : Option (Bool) := (laws_szGen.f a0_0 a0_1 a0_2 a0_3 l0_4 1048576).bind fun t348 => (if t348 < 0 then (some true) else ((laws_toGen.f k a0_0 a0_1 a0_2 a0_3 l0_4).bind fun bt349 => ((spec_GenDegen.f k bt349.1 bt349.2.1 bt349.2.2.1 bt349.2.2.2.1 bt349.2.2.2.2).bind fun bt356 => ((laws_toGen.f k a0_0 a0_1 a0_2 a0_3 l0_4).bind fun bt364 => ((impl_GenDegen.f k bt364.1 bt364.2.1 bt364.2.2.1 bt364.2.2.2.1 bt364.2.2.2.2).bind fun bt372 => ((laws_eqAuto.f k bt372.1 bt372.2.1 bt372.2.2.1 bt372.2.2.2.1 bt356.1 bt356.2.1 bt356.2.2.1 bt356.2.2.2.1).bind fun t380 => (if t380 = true then (laws_FnExactGenDegen.j0 k bt356.2.2.2.2 bt372.2.2.2.2 (bt372.2.2.2.2 != bt356.2.2.2.2) a0_0 a0_1 a0_2 a0_3 l0_4 bt356.1 bt356.2.1 bt356.2.2.1 bt356.2.2.2.1 bt364.1 bt364.2.1 bt364.2.2.1 bt364.2.2.2.1 bt364.2.2.2.2 bt372.1 bt372.2.1 bt372.2.2.1 bt372.2.2.2.1) else (laws_FnExactGenDegen.j0 k bt356.2.2.2.2 bt372.2.2.2.2 true a0_0 a0_1 a0_2 a0_3 l0_4 bt356.1 bt356.2.1 bt356.2.2.1 bt356.2.2.2.1 bt364.1 bt364.2.1 bt364.2.2.1 bt364.2.2.2.1 bt364.2.2.2.2 bt372.1 bt372.2.1 bt372.2.2.1 bt372.2.2.2.1))))))))
theorem laws_FnExactGenDegen.mono_l : ∀ k, (∀ y0 y1 y2 y3 y4 y5 y6 y7 y8 y9 y10 y11 y12 y13 y14 y15 y16 y17 y18 y19 y20, LeO (laws_FnExactGenDegen.j0 k y0 y1 y2 y3 y4 y5 y6 y7 y8 y9 y10 y11 y12 y13 y14 y15 y16 y17 y18 y19 y20) (laws_FnExactGenDegen.j0 (k + 1) y0 y1 y2 y3 y4 y5 y6 y7 y8 y9 y10 y11 y12 y13 y14 y15 y16 y17 y18 y19 y20)) ∧ (∀ y0 y1 y2 y3 y4 y5 y6 y7 y8 y9 y10 y11 y12 y13 y14, LeO (laws_FnExactGenDegen.j1 k y0 y1 y2 y3 y4 y5 y6 y7 y8 y9 y10 y11 y12 y13 y14) (laws_FnExactGenDegen.j1 (k + 1) y0 y1 y2 y3 y4 y5 y6 y7 y8 y9 y10 y11 y12 y13 y14)) ∧ (∀ y0 y1 y2 y3 y4 y5, LeO (laws_FnExactGenDegen.j2 k y0 y1 y2 y3 y4 y5) (laws_FnExactGenDegen.j2 (k + 1) y0 y1 y2 y3 y4 y5))
 | 0 => ⟨fun _ _ _ _ _ _ _ _ _ _ _ _ _ _ _ _ _ _ _ _ _ r h => by simp [laws_FnExactGenDegen.j0] at h, fun _ _ _ _ _ _ _ _ _ _ _ _ _ _ _ r h => by simp [laws_FnExactGenDegen.j1] at h, fun _ _ _ _ _ _ r h => by simp [laws_FnExactGenDegen.j2] at h⟩
 | k + 1 => by
  obtain ⟨ih0, ih1, ih2⟩ := laws_FnExactGenDegen.mono_l k
  refine ⟨?_, ?_, ?_⟩
  ·intro y0 y1 y2 y3 y4 y5 y6 y7 y8 y9 y10 y11 y12 y13 y14 y15 y16 y17 y18 y19 y20
   unfold laws_FnExactGenDegen.j0
   repeat' first
   | (with_reducible exact ih0 _ _ _ _ _ _ _ _ _ _ _ _ _ _ _ _ _ _ _ _ _)
   | (with_reducible exact ih1 _ _ _ _ _ _ _ _ _ _ _ _ _ _ _)
   | (with_reducible exact ih2 _ _ _ _ _ _)
   | (with_reducible exact impl_GenDegen.mono _ _ _ _ _ _)
   | (with_reducible exact laws_eqAuto.mono _ _ _ _ _ _ _ _ _)
   | (with_reducible exact laws_eqGen.mono _ _ _ _ _ _ _ _ _ _ _)
   | (with_reducible exact laws_heldAuto.mono _ _ _ _ _ _)
   | (with_reducible exact laws_markAuto.mono _ _ _ _ _ _)
   | (with_reducible exact laws_markGen.mono _ _ _ _ _ _ _)
   | (with_reducible exact laws_toGen.mono _ _ _ _ _ _)
   | (with_reducible exact spec_GenDegen.mono _ _ _ _ _ _)
   | (with_reducible exact LeO.refl _)
   | (with_reducible exact LeO.none _)
   | (with_reducible refine LeO.ite ?_ ?_)
   | (with_reducible refine LeO.bind ?_ (fun _ => ?_))
   | exact ih0 _ _ _ _ _ _ _ _ _ _ _ _ _ _ _ _ _ _ _ _ _
   | exact ih1 _ _ _ _ _ _ _ _ _ _ _ _ _ _ _
   | exact ih2 _ _ _ _ _ _
   | exact impl_GenDegen.mono _ _ _ _ _ _
   | exact laws_eqAuto.mono _ _ _ _ _ _ _ _ _
   | exact laws_eqGen.mono _ _ _ _ _ _ _ _ _ _ _
   | exact laws_heldAuto.mono _ _ _ _ _ _
   | exact laws_markAuto.mono _ _ _ _ _ _
   | exact laws_markGen.mono _ _ _ _ _ _ _
   | exact laws_toGen.mono _ _ _ _ _ _
   | exact spec_GenDegen.mono _ _ _ _ _ _
   | exact LeO.none _
   | refine LeO.ite ?_ ?_
   | refine LeO.bind ?_ (fun _ => ?_)
  ·intro y0 y1 y2 y3 y4 y5 y6 y7 y8 y9 y10 y11 y12 y13 y14
   unfold laws_FnExactGenDegen.j1
   repeat' first
   | (with_reducible exact ih0 _ _ _ _ _ _ _ _ _ _ _ _ _ _ _ _ _ _ _ _ _)
   | (with_reducible exact ih1 _ _ _ _ _ _ _ _ _ _ _ _ _ _ _)
   | (with_reducible exact ih2 _ _ _ _ _ _)
   | (with_reducible exact impl_GenDegen.mono _ _ _ _ _ _)
   | (with_reducible exact laws_eqAuto.mono _ _ _ _ _ _ _ _ _)
   | (with_reducible exact laws_eqGen.mono _ _ _ _ _ _ _ _ _ _ _)
   | (with_reducible exact laws_heldAuto.mono _ _ _ _ _ _)
   | (with_reducible exact laws_markAuto.mono _ _ _ _ _ _)
   | (with_reducible exact laws_markGen.mono _ _ _ _ _ _ _)
   | (with_reducible exact laws_toGen.mono _ _ _ _ _ _)
   | (with_reducible exact spec_GenDegen.mono _ _ _ _ _ _)
   | (with_reducible exact LeO.refl _)
   | (with_reducible exact LeO.none _)
   | (with_reducible refine LeO.ite ?_ ?_)
   | (with_reducible refine LeO.bind ?_ (fun _ => ?_))
   | exact ih0 _ _ _ _ _ _ _ _ _ _ _ _ _ _ _ _ _ _ _ _ _
   | exact ih1 _ _ _ _ _ _ _ _ _ _ _ _ _ _ _
   | exact ih2 _ _ _ _ _ _
   | exact impl_GenDegen.mono _ _ _ _ _ _
   | exact laws_eqAuto.mono _ _ _ _ _ _ _ _ _
   | exact laws_eqGen.mono _ _ _ _ _ _ _ _ _ _ _
   | exact laws_heldAuto.mono _ _ _ _ _ _
   | exact laws_markAuto.mono _ _ _ _ _ _
   | exact laws_markGen.mono _ _ _ _ _ _ _
   | exact laws_toGen.mono _ _ _ _ _ _
   | exact spec_GenDegen.mono _ _ _ _ _ _
   | exact LeO.none _
   | refine LeO.ite ?_ ?_
   | refine LeO.bind ?_ (fun _ => ?_)
  ·intro y0 y1 y2 y3 y4 y5
   unfold laws_FnExactGenDegen.j2
   repeat' first
   | (with_reducible exact ih0 _ _ _ _ _ _ _ _ _ _ _ _ _ _ _ _ _ _ _ _ _)
   | (with_reducible exact ih1 _ _ _ _ _ _ _ _ _ _ _ _ _ _ _)
   | (with_reducible exact ih2 _ _ _ _ _ _)
   | (with_reducible exact impl_GenDegen.mono _ _ _ _ _ _)
   | (with_reducible exact laws_eqAuto.mono _ _ _ _ _ _ _ _ _)
   | (with_reducible exact laws_eqGen.mono _ _ _ _ _ _ _ _ _ _ _)
   | (with_reducible exact laws_heldAuto.mono _ _ _ _ _ _)
   | (with_reducible exact laws_markAuto.mono _ _ _ _ _ _)
   | (with_reducible exact laws_markGen.mono _ _ _ _ _ _ _)
   | (with_reducible exact laws_toGen.mono _ _ _ _ _ _)
   | (with_reducible exact spec_GenDegen.mono _ _ _ _ _ _)
   | (with_reducible exact LeO.refl _)
   | (with_reducible exact LeO.none _)
   | (with_reducible refine LeO.ite ?_ ?_)
   | (with_reducible refine LeO.bind ?_ (fun _ => ?_))
   | exact ih0 _ _ _ _ _ _ _ _ _ _ _ _ _ _ _ _ _ _ _ _ _
   | exact ih1 _ _ _ _ _ _ _ _ _ _ _ _ _ _ _
   | exact ih2 _ _ _ _ _ _
   | exact impl_GenDegen.mono _ _ _ _ _ _
   | exact laws_eqAuto.mono _ _ _ _ _ _ _ _ _
   | exact laws_eqGen.mono _ _ _ _ _ _ _ _ _ _ _
   | exact laws_heldAuto.mono _ _ _ _ _ _
   | exact laws_markAuto.mono _ _ _ _ _ _
   | exact laws_markGen.mono _ _ _ _ _ _ _
   | exact laws_toGen.mono _ _ _ _ _ _
   | exact spec_GenDegen.mono _ _ _ _ _ _
   | exact LeO.none _
   | refine LeO.ite ?_ ?_
   | refine LeO.bind ?_ (fun _ => ?_)
theorem laws_FnExactGenDegen.mono : ∀ a0 a1 a2 a3 a4 k, LeO (laws_FnExactGenDegen.f k a0 a1 a2 a3 a4) (laws_FnExactGenDegen.f (k + 1) a0 a1 a2 a3 a4) := by
 intro a0 a1 a2 a3 a4 k
 obtain ⟨ih0, ih1, ih2⟩ := laws_FnExactGenDegen.mono_l k
 unfold laws_FnExactGenDegen.f
 repeat' first
   | (with_reducible exact ih0 _ _ _ _ _ _ _ _ _ _ _ _ _ _ _ _ _ _ _ _ _)
   | (with_reducible exact ih1 _ _ _ _ _ _ _ _ _ _ _ _ _ _ _)
   | (with_reducible exact ih2 _ _ _ _ _ _)
   | (with_reducible exact impl_GenDegen.mono _ _ _ _ _ _)
   | (with_reducible exact laws_eqAuto.mono _ _ _ _ _ _ _ _ _)
   | (with_reducible exact laws_eqGen.mono _ _ _ _ _ _ _ _ _ _ _)
   | (with_reducible exact laws_heldAuto.mono _ _ _ _ _ _)
   | (with_reducible exact laws_markAuto.mono _ _ _ _ _ _)
   | (with_reducible exact laws_markGen.mono _ _ _ _ _ _ _)
   | (with_reducible exact laws_toGen.mono _ _ _ _ _ _)
   | (with_reducible exact spec_GenDegen.mono _ _ _ _ _ _)
   | (with_reducible exact LeO.refl _)
   | (with_reducible exact LeO.none _)
   | (with_reducible refine LeO.ite ?_ ?_)
   | (with_reducible refine LeO.bind ?_ (fun _ => ?_))
   | exact ih0 _ _ _ _ _ _ _ _ _ _ _ _ _ _ _ _ _ _ _ _ _
   | exact ih1 _ _ _ _ _ _ _ _ _ _ _ _ _ _ _
   | exact ih2 _ _ _ _ _ _
   | exact impl_GenDegen.mono _ _ _ _ _ _
   | exact laws_eqAuto.mono _ _ _ _ _ _ _ _ _
   | exact laws_eqGen.mono _ _ _ _ _ _ _ _ _ _ _
   | exact laws_heldAuto.mono _ _ _ _ _ _
   | exact laws_markAuto.mono _ _ _ _ _ _
   | exact laws_markGen.mono _ _ _ _ _ _ _
   | exact laws_toGen.mono _ _ _ _ _ _
   | exact spec_GenDegen.mono _ _ _ _ _ _
   | exact LeO.none _
   | refine LeO.ite ?_ ?_
   | refine LeO.bind ?_ (fun _ => ?_)
open Go.Proofs.Ytnflbjdmbaaokaa.Short2 in
set_option maxHeartbeats 8000000 in
set_option maxRecDepth 100000 in
theorem laws_FnExactGenDegen.calls (k : Nat) (a0_0 : Int) (a0_1 : Int) (a0_2 : Int) (a0_3 : Int) (A0_4 : Option Addr) (c0_4 : Nat) (l0_4 : List (S65)) (r : Bool) (w : World) (hr0_4 : Kd.C k65 w A0_4 l0_4.length l0_4) (hc0_4 : l0_4.length ≤ c0_4) (h : laws_FnExactGenDegen.f k a0_0 a0_1 a0_2 a0_3 l0_4 = some r) :
  Calls Try.prog 3 #[.agg #[.int .i64 a0_0, .int .i64 a0_1, .int .i64 a0_2, .int .i64 a0_3, .slice A0_4 l0_4.length c0_4]] w fun e w' => e = .returned (.bool r) ∧ Below w.heap.size w w' := by
 have hu24 := Try.underlying24; have hu28 := Try.underlying28; have hu33 := Try.underlying33; have HR0_4 := Aside0.mk hr0_4; have HC0_4 := Aside0.mk hc0_4; clear hr0_4 hc0_4; have HB := Aside0.mk (Below.refl w.heap.size w); have H : ((laws_szGen.f a0_0 a0_1 a0_2 a0_3 l0_4 1048576).bind fun bi => (if bi < 0 then (some true) else ((laws_toGen.f k a0_0 a0_1 a0_2 a0_3 l0_4).bind fun bt349 => ((spec_GenDegen.f k bt349.1 bt349.2.1 bt349.2.2.1 bt349.2.2.2.1 bt349.2.2.2.2).bind fun bt356 => ((laws_toGen.f k a0_0 a0_1 a0_2 a0_3 l0_4).bind fun bt364 => ((impl_GenDegen.f k bt364.1 bt364.2.1 bt364.2.2.1 bt364.2.2.2.1 bt364.2.2.2.2).bind fun bt372 => ((laws_eqAuto.f k bt372.1 bt372.2.1 bt372.2.2.1 bt372.2.2.2.1 bt356.1 bt356.2.1 bt356.2.2.1 bt356.2.2.2.1).bind fun aZ => (if aZ = true then (laws_FnExactGenDegen.j0 k bt356.2.2.2.2 bt372.2.2.2.2 (bt372.2.2.2.2 != bt356.2.2.2.2) a0_0 a0_1 a0_2 a0_3 l0_4 bt356.1 bt356.2.1 bt356.2.2.1 bt356.2.2.2.1 bt364.1 bt364.2.1 bt364.2.2.1 bt364.2.2.2.1 bt364.2.2.2.2 bt372.1 bt372.2.1 bt372.2.2.1 bt372.2.2.2.1) else (laws_FnExactGenDegen.j0 k bt356.2.2.2.2 bt372.2.2.2.2 true a0_0 a0_1 a0_2 a0_3 l0_4 bt356.1 bt356.2.1 bt356.2.2.1 bt356.2.2.2.1 bt364.1 bt364.2.1 bt364.2.2.1 bt364.2.2.2.1 bt364.2.2.2.2 bt372.1 bt372.2.1 bt372.2.2.1 bt372.2.2.2.1))))))))) = some r := h; clear h; replace H := bI H; obtain ⟨bi, hq, H⟩ := H; replace H : (if bi < 0 then (some true) else ((laws_toGen.f k a0_0 a0_1 a0_2 a0_3 l0_4).bind fun bt349 => ((spec_GenDegen.f k bt349.1 bt349.2.1 bt349.2.2.1 bt349.2.2.2.1 bt349.2.2.2.2).bind fun bt356 => ((laws_toGen.f k a0_0 a0_1 a0_2 a0_3 l0_4).bind fun bt364 => ((impl_GenDegen.f k bt364.1 bt364.2.1 bt364.2.2.1 bt364.2.2.2.1 bt364.2.2.2.2).bind fun bt372 => ((laws_eqAuto.f k bt372.1 bt372.2.1 bt372.2.2.1 bt372.2.2.2.1 bt356.1 bt356.2.1 bt356.2.2.1 bt356.2.2.2.1).bind fun aZ => (if aZ = true then (laws_FnExactGenDegen.j0 k bt356.2.2.2.2 bt372.2.2.2.2 (bt372.2.2.2.2 != bt356.2.2.2.2) a0_0 a0_1 a0_2 a0_3 l0_4 bt356.1 bt356.2.1 bt356.2.2.1 bt356.2.2.2.1 bt364.1 bt364.2.1 bt364.2.2.1 bt364.2.2.2.1 bt364.2.2.2.2 bt372.1 bt372.2.1 bt372.2.2.1 bt372.2.2.2.1) else (laws_FnExactGenDegen.j0 k bt356.2.2.2.2 bt372.2.2.2.2 true a0_0 a0_1 a0_2 a0_3 l0_4 bt356.1 bt356.2.1 bt356.2.2.1 bt356.2.2.2.1 bt364.1 bt364.2.1 bt364.2.2.1 bt364.2.2.2.1 bt364.2.2.2.2 bt372.1 bt372.2.1 bt372.2.2.1 bt372.2.2.2.1)))))))) = some r := H; have A2 := Aside0.mk hq; clear hq
 by_cases c3 : bi < 0
 ·rw [if_pos c3] at H; have eL : decide (bi < 0) = true := decide_eq_true c3; clear c3; obtain rfl := Option.some.inj H
  go_enter Try.func3, Try.ntmps3
  go_wp2_with (first | ((with_reducible refine gate_dst (N := 1) rfl ?_); refine bx_ 1 #[.int .i64 a0_0, .int .i64 a0_1, .int .i64 a0_2, .int .i64 a0_3, .slice A0_4 l0_4.length c0_4] 24 ?_; intro aN hg w4 hbox hb; have ac := Aside0.mk (hbox); have hf := xG HB hg; have bx := xG HB hg; replace HB := xS HB hb; clear hb hbox hg; obtain ⟨dA, dB, dC, dD, dE, dF, dG, dH, dI, dJ⟩ := cz5 ac) | ((with_reducible refine gate_callee (f := 4) rfl ?_); refine gl_ (some 16) Try.func4 #[.agg #[.int .i64 a0_0, .int .i64 a0_1, .int .i64 a0_2, .int .i64 a0_3, .slice A0_4 l0_4.length c0_4], .int .i64 1048576] ?_; (with_reducible refine (laws_szGen.calls a0_0 a0_1 a0_2 a0_3 _ _ l0_4 1048576 bi _ ?side1 ?side2 A2.out).mono ?_); (case side1 => exact zC (Kd.C_below HR0_4.out HB.out)); (case side2 => exact HC0_4.out); rintro e w6 ⟨rfl, hb⟩; refine ⟨_, rfl, ?_⟩; replace ac := xB ac hb; replace HB := xS HB hb; (try clear hb); (try clear hb2); (try clear hk); (try clear hi)))
  go_ret; exact ⟨vw, zS HB.out⟩
 ·rw [if_neg c3] at H; have eL : decide (bi < 0) = false := decide_eq_false c3; clear c3; replace H := bI H; obtain ⟨⟨eM, eN, eO, eP, dK⟩, hr, H⟩ := H; replace H : ((spec_GenDegen.f k eM eN eO eP dK).bind fun bt356 => ((laws_toGen.f k a0_0 a0_1 a0_2 a0_3 l0_4).bind fun bt364 => ((impl_GenDegen.f k bt364.1 bt364.2.1 bt364.2.2.1 bt364.2.2.2.1 bt364.2.2.2.2).bind fun bt372 => ((laws_eqAuto.f k bt372.1 bt372.2.1 bt372.2.2.1 bt372.2.2.2.1 bt356.1 bt356.2.1 bt356.2.2.1 bt356.2.2.2.1).bind fun aZ => (if aZ = true then (laws_FnExactGenDegen.j0 k bt356.2.2.2.2 bt372.2.2.2.2 (bt372.2.2.2.2 != bt356.2.2.2.2) a0_0 a0_1 a0_2 a0_3 l0_4 bt356.1 bt356.2.1 bt356.2.2.1 bt356.2.2.2.1 bt364.1 bt364.2.1 bt364.2.2.1 bt364.2.2.2.1 bt364.2.2.2.2 bt372.1 bt372.2.1 bt372.2.2.1 bt372.2.2.2.1) else (laws_FnExactGenDegen.j0 k bt356.2.2.2.2 bt372.2.2.2.2 true a0_0 a0_1 a0_2 a0_3 l0_4 bt356.1 bt356.2.1 bt356.2.2.1 bt356.2.2.2.1 bt364.1 bt364.2.1 bt364.2.2.1 bt364.2.2.2.1 bt364.2.2.2.2 bt372.1 bt372.2.1 bt372.2.2.1 bt372.2.2.2.1)))))) = some r := H; have A7 := Aside0.mk hr; clear hr; replace H := bI H; obtain ⟨⟨am, an, ao, al, ap⟩, hs, H⟩ := H; replace H : ((laws_toGen.f k a0_0 a0_1 a0_2 a0_3 l0_4).bind fun bt364 => ((impl_GenDegen.f k bt364.1 bt364.2.1 bt364.2.2.1 bt364.2.2.2.1 bt364.2.2.2.2).bind fun bt372 => ((laws_eqAuto.f k bt372.1 bt372.2.1 bt372.2.2.1 bt372.2.2.2.1 am an ao al).bind fun aZ => (if aZ = true then (laws_FnExactGenDegen.j0 k ap bt372.2.2.2.2 (bt372.2.2.2.2 != ap) a0_0 a0_1 a0_2 a0_3 l0_4 am an ao al bt364.1 bt364.2.1 bt364.2.2.1 bt364.2.2.2.1 bt364.2.2.2.2 bt372.1 bt372.2.1 bt372.2.2.1 bt372.2.2.2.1) else (laws_FnExactGenDegen.j0 k ap bt372.2.2.2.2 true a0_0 a0_1 a0_2 a0_3 l0_4 am an ao al bt364.1 bt364.2.1 bt364.2.2.1 bt364.2.2.2.1 bt364.2.2.2.2 bt372.1 bt372.2.1 bt372.2.2.1 bt372.2.2.2.1))))) = some r := H; have A8 := Aside0.mk hs; clear hs; replace H := bI H; obtain ⟨⟨ax, ay, az, aA, av⟩, dR, H⟩ := H; replace H : ((impl_GenDegen.f k ax ay az aA av).bind fun bt372 => ((laws_eqAuto.f k bt372.1 bt372.2.1 bt372.2.2.1 bt372.2.2.2.1 am an ao al).bind fun aZ => (if aZ = true then (laws_FnExactGenDegen.j0 k ap bt372.2.2.2.2 (bt372.2.2.2.2 != ap) a0_0 a0_1 a0_2 a0_3 l0_4 am an ao al ax ay az aA av bt372.1 bt372.2.1 bt372.2.2.1 bt372.2.2.2.1) else (laws_FnExactGenDegen.j0 k ap bt372.2.2.2.2 true a0_0 a0_1 a0_2 a0_3 l0_4 am an ao al ax ay az aA av bt372.1 bt372.2.1 bt372.2.2.1 bt372.2.2.2.1)))) = some r := H; have A9 := Aside0.mk dR; clear dR; replace H := bI H; obtain ⟨⟨ai, aj, ak, ah, aJ⟩, gO, H⟩ := H
  replace H : ((laws_eqAuto.f k ai aj ak ah am an ao al).bind fun aZ => (if aZ = true then (laws_FnExactGenDegen.j0 k ap aJ (aJ != ap) a0_0 a0_1 a0_2 a0_3 l0_4 am an ao al ax ay az aA av ai aj ak ah) else (laws_FnExactGenDegen.j0 k ap aJ true a0_0 a0_1 a0_2 a0_3 l0_4 am an ao al ax ay az aA av ai aj ak ah))) = some r := H; have iT := Aside0.mk gO; clear gO; have HC11 := Aside0.mk H; clear H
  go_enter Try.func3, Try.ntmps3
  go_upto_region 8 with (first | ((with_reducible refine gate_dst (N := 1) rfl ?_); refine bx_ 1 #[.int .i64 a0_0, .int .i64 a0_1, .int .i64 a0_2, .int .i64 a0_3, .slice A0_4 l0_4.length c0_4] 24 ?_; intro aN hg mV hbox hb; have ac := Aside0.mk (hbox); have hf := xG HB hg; have bx := xG HB hg; replace HB := xS HB hb; clear hb hbox hg; obtain ⟨bC, bD, bE, bF, bG, bH, bJ, bK, bL, bM⟩ := cz5 ac) | ((with_reducible refine gate_callee (f := 4) rfl ?_); refine gl_ (some 16) Try.func4 #[.agg #[.int .i64 a0_0, .int .i64 a0_1, .int .i64 a0_2, .int .i64 a0_3, .slice A0_4 l0_4.length c0_4], .int .i64 1048576] ?_; (with_reducible refine (laws_szGen.calls a0_0 a0_1 a0_2 a0_3 _ _ l0_4 1048576 bi _ ?side1 ?side2 A2.out).mono ?_); (case side1 => exact zC (Kd.C_below HR0_4.out HB.out)); (case side2 => exact HC0_4.out); rintro e mW ⟨rfl, hb⟩; refine ⟨_, rfl, ?_⟩; replace ac := xB ac hb; replace HB := xS HB hb; (try clear hb); (try clear hb2); (try clear hk); (try clear hi); obtain ⟨bN, bO, bP, bQ, bR, bS, bT, bU, bV, bW⟩ := cz5 ac) | ((with_reducible refine gate_callee (f := 6) rfl ?_); refine gl_ (some 21) Try.func6 #[.agg #[.int .i64 a0_0, .int .i64 a0_1, .int .i64 a0_2, .int .i64 a0_3, .slice A0_4 l0_4.length c0_4]] ?_; (with_reducible refine (laws_toGen.calls k a0_0 a0_1 a0_2 a0_3 _ _ l0_4 eM eN eO eP dK _ ?side1 ?side2 A7.out).mono ?_); (case side1 => exact zC (Kd.C_below HR0_4.out HB.out)); (case side2 => exact HC0_4.out); rintro e mX ⟨mc, rfl, ho0, hb⟩; refine ⟨_, rfl, ?_⟩; have aG := rW0 ho0 HB; replace ac := xB ac hb; replace HB := xS HB hb; (try clear hb); (try clear hb2); (try clear hk); (try clear hi); (try clear ho0); obtain ⟨gP, gQ, hT⟩ := Kd.R_slice aG.out; subst hT) | ((with_reducible refine gate_callee (f := 5) rfl ?_); refine gl_ (some 22) Try.func5 #[.agg #[.int .i64 eM, .int .i64 eN, .int .i64 eO, .int .i64 eP, .slice gP dK.length gQ]] ?_; (with_reducible refine (spec_GenDegen.calls k eM eN eO eP _ _ dK am an ao al ap _ ?side1 ?side2 A8.out).mono ?_); (case side1 => exact sC aG); (case side2 => exact sL aG); rintro e mY ⟨md, rfl, ho0, hb⟩; refine ⟨_, rfl, ?_⟩; replace aG := xR aG hb; have aC := rW0 ho0 HB; replace ac := xB ac hb; replace HB := xS HB hb; (try clear hb); (try clear hb2); (try clear hk); (try clear hi); (try clear ho0)) | ((with_reducible refine gate_dst (N := 4) rfl ?_); refine bx_ 4 #[.int .i64 0, .int .i64 0, .int .i64 0, .slice none 0 0] 28 ?_; intro dw hg mZ hbox hb; replace aG := xR aG hb; replace aC := xR aC hb; have ag := Aside0.mk (hbox); have kL := xG HB hg; have dx := xG HB hg; replace HB := xS HB hb; have eX := xN ac hg; have aP := xM ac hg; replace ac := xB ac hb; clear hb hbox hg; obtain ⟨kM, kN⟩ := nn aP; obtain ⟨bX, bY, bZ, ca, cb, cc, cd, ce⟩ := cz4 ag; obtain ⟨aK, aH, hU⟩ := Kd.R_slice aC.out; subst hU; obtain ⟨cf, cg, ch, ci, cj, ck, cl, cm, cn, co⟩ := cz5 ac) | ((with_reducible refine gate_callee (f := 6) rfl ?_); refine gl_ (some 26) Try.func6 #[.agg #[.int .i64 a0_0, .int .i64 a0_1, .int .i64 a0_2, .int .i64 a0_3, .slice A0_4 l0_4.length c0_4]] ?_; (with_reducible refine (laws_toGen.calls k a0_0 a0_1 a0_2 a0_3 _ _ l0_4 ax ay az aA av _ ?side1 ?side2 A9.out).mono ?_); (case side1 => exact Kd.C_below HR0_4.out (zS HB.out)); (case side2 => exact HC0_4.out); rintro e na ⟨me, rfl, ho0, hb⟩; refine ⟨_, rfl, ?_⟩; replace aC := Aside0.mk (Kd.R_below (zR (xF4 aC ag)) hb); have aL := Aside0.mk (Kd.R_lower (Kd.R_new' ho0 (Kd.R_lt (zR (xF4 aG ag)))) (below_size (zS HB.out))); replace aG := Aside0.mk (Kd.R_elder' (zR (xF4 aG ag)) (Kd.R_base ho0) hb); replace ac := xB ac hb; replace ag := Aside0.mk (blk_below (g := dw) (o := .cells #[.int .i64 am, .int .i64 an, .int .i64 ao, .slice aK al.length aH] 28 (0, 0)) (xP4 ag.out) hb); replace HB := xS HB hb; (try clear hb); (try clear hb2); (try clear hk); (try clear hi); (try clear ho0)) | ((with_reducible refine gate_dst (N := 6) rfl ?_); refine bx_ 6 #[.int .i64 0, .int .i64 0, .int .i64 0, .int .i64 0, .slice none 0 0] 33 ?_; intro aO hg nc hbox hb; replace aG := xR aG hb; replace aC := xR aC hb; replace aL := xR aL hb; have ae := Aside0.mk (hbox); have kO := xG HB hg; have dy := xG HB hg; replace HB := xS HB hb; have eY := xN ac hg; have dr := xM ac hg; replace ac := xB ac hb; have aY := xN ag hg; have dt := xM ag hg; replace ag := xB ag hb; clear hb hbox hg; obtain ⟨kP, kQ⟩ := nn dr; obtain ⟨kR, kS⟩ := nn dt; obtain ⟨cp, cq, cr, cs, ct, cu, cv, cw, cx, cy⟩ := cz5 ae; obtain ⟨aV, aQ, hV⟩ := Kd.R_slice aL.out; subst hV) | ((with_reducible refine gate_callee (f := 7) rfl ?_); refine gl_ (some 29) Try.func7 #[.agg #[.int .i64 ax, .int .i64 ay, .int .i64 az, .int .i64 aA, .slice aV av.length aQ]] ?_; (with_reducible refine (impl_GenDegen.calls k ax ay az aA _ _ av ai aj ak ah aJ _ ?side1 ?side2 iT.out).mono ?_); (case side1 => refine (Kd.R_reads' (e := 46) (base := w.heap.size) (ok := fun k_ => (True ∧ some k_ ≠ (.slice gP dK.length gQ : Value).ownBlock)) (n := av.length) (c := aQ) ?_).2.2; exact (zR (xF5 aL ae))); (case side2 => exact sL aL); rintro e nd ⟨mf, rfl, ho0, hb⟩; refine ⟨_, rfl, ?_⟩; replace aG := Aside0.mk (Kd.R_below (zR (xF5 aG ae)) hb); replace aL := Aside0.mk (Kd.R_below (zR (xF5 aL ae)) hb); have aT := Aside0.mk (Kd.R_lower (Kd.R_new' ho0 (Kd.R_lt (zR (xF5 aC ae)))) (below_size (zS HB.out))); replace aC := Aside0.mk (Kd.R_elder' (zR (xF5 aC ae)) (Kd.R_base ho0) hb); replace ac := xB ac hb; replace ag := xB ag hb; replace ae := Aside0.mk (blk_below (g := aO) (o := .cells #[.int .i64 ax, .int .i64 ay, .int .i64 az, .int .i64 aA, .slice aV av.length aQ] 33 (0, 0)) (xP5 ae.out) hb); replace HB := xS HB hb; (try clear hb); (try clear hb2); (try clear hk); (try clear hi); (try clear ho0)) | ((with_reducible refine gate_dst (N := 7) rfl ?_); refine bx_ 7 #[.int .i64 0, .int .i64 0, .int .i64 0, .slice none 0 0] 28 ?_; intro bz hg ne hbox hb; replace aG := xR aG hb; replace aC := xR aC hb; replace aL := xR aL hb; replace aT := xR aT hb; have af := Aside0.mk (hbox); have kT := xG HB hg; have dz := xG HB hg; replace HB := xS HB hb; have ht := xN ac hg; have aD := xM ac hg; replace ac := xB ac hb; have du := xN ag hg; have aE := xM ag hg; replace ag := xB ag hb; have eZ := xN ae hg; have aF := xM ae hg; replace ae := xB ae hb; clear hb hbox hg; obtain ⟨kU, kV⟩ := nn aD; obtain ⟨kW, kX⟩ := nn aE; obtain ⟨kY, kZ⟩ := nn aF; obtain ⟨cz, cA, cB, cC, cD, cE, cF, cG⟩ := cz4 af; obtain ⟨ar, aq, hW⟩ := Kd.R_slice aT.out; subst hW))
  (try simp only [Act.put, q3])
  go_cut [40] (fun iU wc => ∃ (kq : Nat) (bA : Bool), iU = .bool bA ∧ Aside0 (laws_FnExactGenDegen.j0 kq ap aJ bA a0_0 a0_1 a0_2 a0_3 l0_4 am an ao al ax ay az aA av ai aj ak ah = some r) ∧ Aside0 (kq ≤ k) ∧ Aside0 (Kd.R k48 48 wc w.heap.size (fun k_ => some k_ ≠ ((.slice ar ah.length aq) : Value).ownBlock) (.slice aK al.length aH) al) ∧ Aside0 (Kd.R k46 46 wc w.heap.size (fun _ => True) (.slice aV av.length aQ) av) ∧ Aside0 (Kd.R k48 48 wc w.heap.size (fun k_ => some k_ ≠ ((.slice aK al.length aH) : Value).ownBlock) (.slice ar ah.length aq) ah) ∧ Aside0 (wc.heap[aN]? = some (.cells #[.int .i64 a0_0, .int .i64 a0_1, .int .i64 a0_2, .int .i64 a0_3, (.slice A0_4 l0_4.length c0_4)] 24 (0, 0))) ∧ Aside0 (wc.heap[dw]? = some (.cells #[.int .i64 am, .int .i64 an, .int .i64 ao, (.slice aK al.length aH)] 28 (0, 0))) ∧ Aside0 (wc.heap[aO]? = some (.cells #[.int .i64 ax, .int .i64 ay, .int .i64 az, .int .i64 aA, (.slice aV av.length aQ)] 33 (0, 0))) ∧ Aside0 (wc.heap[bz]? = some (.cells #[.int .i64 ai, .int .i64 aj, .int .i64 ak, (.slice ar ah.length aq)] 28 (0, 0))) ∧ Aside0 (Below w.heap.size w wc))
  case first =>
   have H := HC11.out; clear HC11; replace H := bI H; obtain ⟨aZ, gR, H⟩ := H; replace H : (if aZ = true then (laws_FnExactGenDegen.j0 k ap aJ (aJ != ap) a0_0 a0_1 a0_2 a0_3 l0_4 am an ao al ax ay az aA av ai aj ak ah) else (laws_FnExactGenDegen.j0 k ap aJ true a0_0 a0_1 a0_2 a0_3 l0_4 am an ao al ax ay az aA av ai aj ak ah)) = some r := H; have hu := Aside0.mk gR; clear gR
   by_cases dL : aZ = true
   ·subst dL
    have H1 : (laws_FnExactGenDegen.j0 k ap aJ (aJ != ap) a0_0 a0_1 a0_2 a0_3 l0_4 am an ao al ax ay az aA av ai aj ak ah) = some r := by rw [if_pos rfl] at H; exact H
    clear H; have H := H1; clear H1; have H' := Aside0.mk H; clear H; obtain ⟨la, lb⟩ := nn aD; obtain ⟨lc, ld⟩ := nn aE; obtain ⟨le, lf⟩ := nn aF; obtain ⟨cH, cI, cJ, cK, cL, cM, cN, cO⟩ := cz4 af; obtain ⟨lg, lh⟩ := nn aP; obtain ⟨li, lj⟩ := nn aY; obtain ⟨cP, cQ, cR, cS, cU, cV, cW, cX⟩ := cz4 ag
    go_wp2_with (first | ((with_reducible refine gate_callee (f := 8) rfl ?_); refine gl_ (some 34) Try.func8 #[.agg #[.int .i64 ai, .int .i64 aj, .int .i64 ak, .slice ar ah.length aq], .agg #[.int .i64 am, .int .i64 an, .int .i64 ao, .slice aK al.length aH]] ?_; (with_reducible refine (laws_eqAuto.calls k ai aj ak _ _ ah am an ao _ _ al true _ ?side1 ?side2 ?side3 ?side4 hu.out).mono ?_); (case side1 => refine (Kd.R_reads' (e := 48) (base := w.heap.size) (ok := fun k_ => (True ∧ some k_ ≠ (.slice aK al.length aH : Value).ownBlock)) (n := ah.length) (c := aq) ?_).2.2; exact (zR (xF4 aT af))); (case side2 => exact sL aT); (case side3 => refine (Kd.R_reads' (e := 48) (base := w.heap.size) (ok := fun k_ => (True ∧ some k_ ≠ (.slice ar ah.length aq : Value).ownBlock)) (n := al.length) (c := aH) ?_).2.2; exact (zR (xF4 aC af))); (case side4 => exact sL aC); rintro e nf ⟨rfl, hb⟩; refine ⟨_, rfl, ?_⟩; replace aG := Aside0.mk (Kd.R_below (zR (xF4 aG af)) hb); replace aC := Aside0.mk (Kd.R_below (zR (xF4 aC af)) hb); replace aL := Aside0.mk (Kd.R_below (zR (xF4 aL af)) hb); replace aT := Aside0.mk (Kd.R_below (zR (xF4 aT af)) hb); replace ac := xB ac hb; replace ag := xB ag hb; replace ae := xB ae hb; replace af := Aside0.mk (blk_below (g := bz) (o := .cells #[.int .i64 ai, .int .i64 aj, .int .i64 ak, .slice ar ah.length aq] 28 (0, 0)) (xP4 af.out) hb); replace HB := xS HB hb; (try clear hb); (try clear hb2); (try clear hk); (try clear hi)))
    go_meet
    case rel => exact ⟨_, ((aJ != ap)), vv, H', ⟨by first | omega | exact Nat.le_refl _⟩, ⟨rM aC (fun _ hk => hk.2)⟩, ⟨rM aL (fun _ hk => trivial)⟩, ⟨rM aT (fun _ hk => hk.2)⟩, ⟨zB ac.out⟩, ⟨zB ag.out⟩, ⟨zB ae.out⟩, ⟨zB af.out⟩, ⟨zS HB.out⟩⟩
   ·replace dL := Bool.eq_false_iff.mpr dL; subst dL
    have H1 : (laws_FnExactGenDegen.j0 k ap aJ true a0_0 a0_1 a0_2 a0_3 l0_4 am an ao al ax ay az aA av ai aj ak ah) = some r := by rw [if_neg (show ¬ (false = true) by decide)] at H; exact H
    clear H; have H := H1; clear H1; have H' := Aside0.mk H; clear H; obtain ⟨lk, ll⟩ := nn aD; obtain ⟨lm, ln⟩ := nn aE; obtain ⟨lo, lp⟩ := nn aF; obtain ⟨cY, cZ, da, db, dc, dd, de, df⟩ := cz4 af; obtain ⟨lq, lr⟩ := nn aP; obtain ⟨ls, lt⟩ := nn aY; obtain ⟨dg, dh, di, dj, dk, dl, dm, dn⟩ := cz4 ag
    go_wp2_with (first | ((with_reducible refine gate_callee (f := 8) rfl ?_); refine gl_ (some 34) Try.func8 #[.agg #[.int .i64 ai, .int .i64 aj, .int .i64 ak, .slice ar ah.length aq], .agg #[.int .i64 am, .int .i64 an, .int .i64 ao, .slice aK al.length aH]] ?_; (with_reducible refine (laws_eqAuto.calls k ai aj ak _ _ ah am an ao _ _ al false _ ?side1 ?side2 ?side3 ?side4 hu.out).mono ?_); (case side1 => refine (Kd.R_reads' (e := 48) (base := w.heap.size) (ok := fun k_ => (True ∧ some k_ ≠ (.slice aK al.length aH : Value).ownBlock)) (n := ah.length) (c := aq) ?_).2.2; exact (zR (xF4 aT af))); (case side2 => exact sL aT); (case side3 => refine (Kd.R_reads' (e := 48) (base := w.heap.size) (ok := fun k_ => (True ∧ some k_ ≠ (.slice ar ah.length aq : Value).ownBlock)) (n := al.length) (c := aH) ?_).2.2; exact (zR (xF4 aC af))); (case side4 => exact sL aC); rintro e ng ⟨rfl, hb⟩; refine ⟨_, rfl, ?_⟩; replace aG := Aside0.mk (Kd.R_below (zR (xF4 aG af)) hb); replace aC := Aside0.mk (Kd.R_below (zR (xF4 aC af)) hb); replace aL := Aside0.mk (Kd.R_below (zR (xF4 aL af)) hb); replace aT := Aside0.mk (Kd.R_below (zR (xF4 aT af)) hb); replace ac := xB ac hb; replace ag := xB ag hb; replace ae := xB ae hb; replace af := Aside0.mk (blk_below (g := bz) (o := .cells #[.int .i64 ai, .int .i64 aj, .int .i64 ak, .slice ar ah.length aq] 28 (0, 0)) (xP4 af.out) hb); replace HB := xS HB hb; (try clear hb); (try clear hb2); (try clear hk); (try clear hi)))
    go_meet
    case rel => exact ⟨_, (true), vv, H', ⟨by first | omega | exact Nat.le_refl _⟩, ⟨rM aC (fun _ hk => hk.2)⟩, ⟨rM aL (fun _ hk => trivial)⟩, ⟨rM aT (fun _ hk => hk.2)⟩, ⟨zB ac.out⟩, ⟨zB ag.out⟩, ⟨zB ae.out⟩, ⟨zB af.out⟩, ⟨zS HB.out⟩⟩
  case rest =>
   clear HC11
   try clear c2
   try clear p2
   try clear c3
   try clear eL
   try clear c4
   try clear c5
   try clear c6
   try clear c7
   try clear c8
   try clear hv
   try clear hw
   try clear hx
   try clear hy
   try clear hA
   try clear hB
   try clear dL
   try clear hC
   try clear hD
   try clear hE
   try clear hF
   try clear hG
   try clear hH
   try clear hI
   try clear hJ
   try clear hL
   try clear hM
   try clear bC bD bE bF bG
   try clear bN bO bP bQ bR
   try clear bX bY bZ ca
   try clear cf cg ch ci cj
   try clear cp cq cr cs ct
   try clear cz cA cB cC
   try clear cH cI cJ cK
   try clear cP cQ cR cS
   try clear cY cZ da db
   try clear dg dh di dj
   try clear dA dB dC dD dE
   try clear bH
   try clear bJ
   try clear bK
   try clear bL
   try clear bM
   try clear bS
   try clear bT
   try clear bU
   try clear bV
   try clear bW
   try clear cb
   try clear cc
   try clear cd
   try clear ce
   try clear ck
   try clear cl
   try clear cm
   try clear cn
   try clear co
   try clear cu
   try clear cv
   try clear cw
   try clear cx
   try clear cy
   try clear cD
   try clear cE
   try clear cF
   try clear cG
   try clear cL
   try clear cM
   try clear cN
   try clear cO
   try clear cU
   try clear cV
   try clear cW
   try clear cX
   try clear dc
   try clear dd
   try clear de
   try clear df
   try clear dk
   try clear dl
   try clear dm
   try clear dn
   try clear dF
   try clear dG
   try clear dH
   try clear dI
   try clear dJ
   obtain ⟨kq, bA, rfl, HA, HJ10, ad, ab, aa, ac, ag, ae, af, HB⟩ := hcut
   cases kq with
   | zero => exact absurd HA.out (by simp [laws_FnExactGenDegen.j0])
   | succ kj10 =>
    have H := HA.out; clear HA; simp only [laws_FnExactGenDegen.j0] at H
    by_cases dS : bA = true
    ·subst dS
     have H1 : (some false) = some r := by rw [if_pos rfl] at H; exact H
     clear H; have H := H1; clear H1; obtain rfl := Option.some.inj H
     go_wp2
     go_ret; exact ⟨vw, zS HB.out⟩
    ·replace dS := Bool.eq_false_iff.mpr dS; subst dS
     have H1 : ((laws_toGen.f kj10 a0_0 a0_1 a0_2 a0_3 l0_4).bind fun bt381 => ((laws_eqGen.f kj10 ax ay az aA av bt381.1 bt381.2.1 bt381.2.2.1 bt381.2.2.2.1 bt381.2.2.2.2).bind fun dp => (if dp = true then ((laws_markGen.f kj10 ax ay az aA av 1).bind fun bt389 => (if bt389.1 < 0 then (laws_FnExactGenDegen.j1 kj10 ap true a0_0 a0_1 a0_2 a0_3 l0_4 am an ao al ai aj ak ah) else ((laws_eqAuto.f kj10 ai aj ak ah am an ao al).bind fun bc => (if bc = true then (laws_FnExactGenDegen.j1 kj10 ap (aJ != ap) a0_0 a0_1 a0_2 a0_3 l0_4 am an ao al ai aj ak ah) else (laws_FnExactGenDegen.j1 kj10 ap true a0_0 a0_1 a0_2 a0_3 l0_4 am an ao al ai aj ak ah))))) else (some false)))) = some r := by rw [if_neg (show ¬ (false = true) by decide)] at H; exact H
     clear H; have H := H1; clear H1; replace H := bI H; obtain ⟨⟨br, bs, bt, bu, bv⟩, gS, H⟩ := H; replace H : ((laws_eqGen.f kj10 ax ay az aA av br bs bt bu bv).bind fun dp => (if dp = true then ((laws_markGen.f kj10 ax ay az aA av 1).bind fun bt389 => (if bt389.1 < 0 then (laws_FnExactGenDegen.j1 kj10 ap true a0_0 a0_1 a0_2 a0_3 l0_4 am an ao al ai aj ak ah) else ((laws_eqAuto.f kj10 ai aj ak ah am an ao al).bind fun bc => (if bc = true then (laws_FnExactGenDegen.j1 kj10 ap (aJ != ap) a0_0 a0_1 a0_2 a0_3 l0_4 am an ao al ai aj ak ah) else (laws_FnExactGenDegen.j1 kj10 ap true a0_0 a0_1 a0_2 a0_3 l0_4 am an ao al ai aj ak ah))))) else (some false))) = some r := H; have hN := Aside0.mk gS; clear gS; replace H := bI H; obtain ⟨dp, gT, H⟩ := H; replace H : (if dp = true then ((laws_markGen.f kj10 ax ay az aA av 1).bind fun bt389 => (if bt389.1 < 0 then (laws_FnExactGenDegen.j1 kj10 ap true a0_0 a0_1 a0_2 a0_3 l0_4 am an ao al ai aj ak ah) else ((laws_eqAuto.f kj10 ai aj ak ah am an ao al).bind fun bc => (if bc = true then (laws_FnExactGenDegen.j1 kj10 ap (aJ != ap) a0_0 a0_1 a0_2 a0_3 l0_4 am an ao al ai aj ak ah) else (laws_FnExactGenDegen.j1 kj10 ap true a0_0 a0_1 a0_2 a0_3 l0_4 am an ao al ai aj ak ah))))) else (some false)) = some r := H; have hO := Aside0.mk gT; clear gT
     by_cases dT : dp = true
     ·subst dT
      have H1 : ((laws_markGen.f kj10 ax ay az aA av 1).bind fun bt389 => (if bt389.1 < 0 then (laws_FnExactGenDegen.j1 kj10 ap true a0_0 a0_1 a0_2 a0_3 l0_4 am an ao al ai aj ak ah) else ((laws_eqAuto.f kj10 ai aj ak ah am an ao al).bind fun bc => (if bc = true then (laws_FnExactGenDegen.j1 kj10 ap (aJ != ap) a0_0 a0_1 a0_2 a0_3 l0_4 am an ao al ai aj ak ah) else (laws_FnExactGenDegen.j1 kj10 ap true a0_0 a0_1 a0_2 a0_3 l0_4 am an ao al ai aj ak ah))))) = some r := by rw [if_pos rfl] at H; exact H
      clear H; have H := H1; clear H1; replace H := bI H; obtain ⟨⟨dM, dN⟩, gU, H⟩ := H; replace H : (if dM < 0 then (laws_FnExactGenDegen.j1 kj10 ap true a0_0 a0_1 a0_2 a0_3 l0_4 am an ao al ai aj ak ah) else ((laws_eqAuto.f kj10 ai aj ak ah am an ao al).bind fun bc => (if bc = true then (laws_FnExactGenDegen.j1 kj10 ap (aJ != ap) a0_0 a0_1 a0_2 a0_3 l0_4 am an ao al ai aj ak ah) else (laws_FnExactGenDegen.j1 kj10 ap true a0_0 a0_1 a0_2 a0_3 l0_4 am an ao al ai aj ak ah)))) = some r := H; have iV := Aside0.mk gU; clear gU; have HC60 := Aside0.mk H; clear H
      try go_wp2
      replace ad := Aside0.mk (Kd.R_drew ad.out); replace ab := Aside0.mk (Kd.R_drew ab.out); replace aa := Aside0.mk (Kd.R_drew aa.out); replace ac := Aside0.mk (blk_drew ac.out); replace ag := Aside0.mk (blk_drew ag.out); replace ae := Aside0.mk (blk_drew ae.out); replace af := Aside0.mk (blk_drew af.out); replace HB := Aside0.mk (below_drew1 HB.out); refine start_ (n := 5) (S := fun w' => w'.cell? ⟨aO, 0, none⟩ = some (.int .i64 ax) ∧ w'.cell? ⟨aO, 1, none⟩ = some (.int .i64 ay) ∧ w'.cell? ⟨aO, 2, none⟩ = some (.int .i64 az) ∧ w'.cell? ⟨aO, 3, none⟩ = some (.int .i64 aA) ∧ w'.cell? ⟨aO, 4, none⟩ = some (.slice aV av.length aQ) ∧ w'.cell? ⟨aN, 0, none⟩ = some (.int .i64 a0_0) ∧ w'.cell? ⟨aN, 1, none⟩ = some (.int .i64 a0_1) ∧ w'.cell? ⟨aN, 2, none⟩ = some (.int .i64 a0_2) ∧ w'.cell? ⟨aN, 3, none⟩ = some (.int .i64 a0_3) ∧ w'.cell? ⟨aN, 4, none⟩ = some (.slice A0_4 l0_4.length c0_4)) (ds := []) #[false, false, false, false, false] (by kernel_rfl) rfl rfl ⟨b1 ae 0, b1 ae 1, b1 ae 2, b1 ae 3, b1 ae 4, b1 ac 0, b1 ac 1, b1 ac 2, b1 ac 3, b1 ac 4⟩ (fun hHeld => ?_); generalize wc.drew = nh at ad ab aa ac ag ae af HB hHeld ⊢; refine take_ (i := 0) (N := some 41) (v := ?_) (a' := ?_) #[true, false, false, false, false] rfl rfl (by kernel_rfl) (fun _ _ _ h => h) (Or.inl ⟨by rfl, ?_⟩) hHeld ?_ ?_; rotate_left
      ·rintro w' ⟨s0, s1, s2, s3, s4, s5, s6, s7, s8, s9⟩; go_simp; with_reducible rfl
      rotate_left
      ·simp only [Act.put, q5]; rfl
      refine take_ (i := 1) (N := some 42) (v := ?_) (a' := ?_) #[true, true, false, false, false] rfl rfl (by kernel_rfl) (fun _ _ _ h => h) (Or.inl ⟨by rfl, ?_⟩) hHeld ?_ ?_; rotate_left
      ·rintro w' ⟨s0, s1, s2, s3, s4, s5, s6, s7, s8, s9⟩; go_simp; with_reducible rfl
      rotate_left
      ·simp only [Act.put, q5]; rfl
      refine one_ (i := 2) (N := some 43) #[true, true, true, false, false] rfl rfl (by kernel_rfl) (by decide) (fun K hK => ?_); refine gs_ Try.func6 #[.agg #[.int .i64 a0_0, .int .i64 a0_1, .int .i64 a0_2, .int .i64 a0_3, .slice A0_4 l0_4.length c0_4]] ?_
      with_reducible refine (laws_toGen.calls kj10 a0_0 a0_1 a0_2 a0_3 _ _ l0_4 br bs bt bu bv _ ?side1 ?side2 hN.out).mono ?_
      (case side1 => exact zC (Kd.C_below HR0_4.out HB.out))
      (case side2 => exact HC0_4.out)
      rintro e ni ⟨hX, rfl, ho0, hb⟩; refine ⟨_, rfl, ?_⟩; replace ad := xR ad hb; replace aa := xR aa hb; have aI := rW1 ho0 ab HB; replace ab := xE ab ho0 hb; replace ac := xB ac hb; replace ag := xB ag hb; replace ae := xB ae hb; replace af := xB af hb; replace HB := xS HB hb
      (try clear hb)
      (try clear hb2)
      (try clear hk)
      (try clear hi)
      (try clear ho0)
      obtain ⟨hY, hZ, gV⟩ := Kd.R_slice aI.out
      (first | subst gV | (injection gV with f1_ f2_ f3_; have f4_ := f1_.symm; have f5_ := f3_.symm; clear f1_ f2_ f3_; subst f4_; subst f5_))
      refine hK.out _ _ ⟨b1 ae 0, b1 ae 1, b1 ae 2, b1 ae 3, b1 ae 4, b1 ac 0, b1 ac 1, b1 ac 2, b1 ac 3, b1 ac 4⟩ (fun hHeld => ?_); clear hK K; refine nr_ (some 43) ?_
      refine one_ (i := 3) (N := some 44) #[true, true, true, true, false] rfl rfl (by kernel_rfl) (by decide) (fun K hK => ?_); refine gs_ Try.func9 #[.agg #[.int .i64 ax, .int .i64 ay, .int .i64 az, .int .i64 aA, .slice aV av.length aQ], .agg #[.int .i64 br, .int .i64 bs, .int .i64 bt, .int .i64 bu, .slice hY bv.length hZ]] ?_
      with_reducible refine (laws_eqGen.calls kj10 ax ay az aA _ _ av br bs bt bu _ _ bv true _ ?side1 ?side2 ?side3 ?side4 hO.out).mono ?_
      (case side1 => exact sC ab)
      (case side2 => exact sL ab)
      (case side3 => exact sC aI)
      (case side4 => exact sL aI)
      rintro e nj ⟨rfl, hb⟩; refine ⟨_, rfl, ?_⟩; replace ad := xR ad hb; replace ab := xR ab hb; replace aa := xR aa hb; replace aI := xR aI hb; replace ac := xB ac hb; replace ag := xB ag hb; replace ae := xB ae hb; replace af := xB af hb; replace HB := xS HB hb
      (try clear hb)
      (try clear hb2)
      (try clear hk)
      (try clear hi)
      refine hK.out _ _ ⟨b1 ae 0, b1 ae 1, b1 ae 2, b1 ae 3, b1 ae 4, b1 ac 0, b1 ac 1, b1 ac 2, b1 ac 3, b1 ac 4⟩ (fun hHeld => ?_); clear hK K; refine nr_ (some 44) ?_
      refine pure_ (i := 4) (N := some 45) (v := ?_) (a' := ?_) #[true, true, true, true, true] rfl rfl (by kernel_rfl) (fun _ _ _ h => h) (Or.inl ⟨by rfl, ?_⟩) ?_ ?_; rotate_left; (intro w'; go_simp; with_reducible rfl); rotate_left; (simp only [Act.put, q5]; rfl)
      refine done_ (by kernel_rfl) ?_; obtain ⟨lu, lv⟩ := nn dr; obtain ⟨lw, lx⟩ := nn dt; obtain ⟨ly, lz⟩ := nn eZ; obtain ⟨dU, dV, dW, dX, dY, dZ, ea, eb, ec, ed⟩ := cz5 ae
      go_upto_region 14 with (first | ((with_reducible refine gate_callee (f := 10) rfl ?_); refine gl_ (some 48) Try.func10 #[.agg #[.int .i64 ax, .int .i64 ay, .int .i64 az, .int .i64 aA, .slice aV av.length aQ], .int .i64 1] ?_; (with_reducible refine (laws_markGen.calls kj10 ax ay az aA (fun k_ => some k_ = (.slice aV av.length aQ : Value).ownBlock) (.slice aV av.length aQ) av 1 dM dN w _ ?side1 ?side2 iV.out).mono ?_); (case side1 => repeat (first | (with_reducible first | exact HB.out | apply below_alloc | apply pw_below_drewN | apply below_drew1 | refine below_set ?_ bx.out | refine below_set ?_ dx.out | refine below_set ?_ dy.out | refine below_set ?_ dz.out) | exact HB.out)); (case side2 => exact Kd.R_tight rfl ab.out); rintro e nk ⟨rfl, bj, hb, hkp⟩; refine ⟨_, rfl, ?_⟩; replace ad := Aside0.mk (Kd.R_mono (ok' := fun k_ => some k_ ≠ (.slice ar ah.length aq : Value).ownBlock) (Kd.R_keptB ((Kd.R_apart' ad.out (Kd.R_typed ab.out) (by decide))) hkp (fun k_ hk_ hs_ => (hk_.2) hs_)) (fun k_ hk_ => hk_.1.1)); replace aa := Aside0.mk (Kd.R_mono (ok' := fun k_ => some k_ ≠ (.slice aK al.length aH : Value).ownBlock) (Kd.R_keptB ((Kd.R_apart' aa.out (Kd.R_typed ab.out) (by decide))) hkp (fun k_ hk_ hs_ => (hk_.2) hs_)) (fun k_ hk_ => hk_.1.1)); replace ac := Aside0.mk (blk_kept (zB ac.out) hkp (fun hs_ => (fun e_ => (Kd.R_ne ab.out ac.out (by decide)) e_) hs_)); replace ag := Aside0.mk (blk_kept (zB ag.out) hkp (fun hs_ => (fun e_ => (Kd.R_ne ab.out ag.out (by decide)) e_) hs_)); replace ae := Aside0.mk (blk_kept (zB ae.out) hkp (fun hs_ => (fun e_ => (Kd.R_ne ab.out ae.out (by decide)) e_) hs_)); replace af := Aside0.mk (blk_kept (zB af.out) hkp (fun hs_ => (fun e_ => (Kd.R_ne ab.out af.out (by decide)) e_) hs_)); replace ab := Aside0.mk (Kd.R_reok rfl bj (fun k_ e_ => ab.out.1 k_ e_)); replace aI := Aside0.mk (Kd.R_mono (ok' := fun k_ => some k_ ≠ (.slice aV av.length aQ : Value).ownBlock) (Kd.R_keptB (aI.out) hkp (fun k_ hk_ hs_ => (hk_.2) hs_)) (fun k_ hk_ => hk_.1.2)); replace HB := Aside0.mk (hb); (try clear hb); (try clear hkp); (try clear bj)))
      (try simp only [Act.put, q3])
      go_cut [61] (fun iW wc => ∃ (kq : Nat) (bB : Bool), iW = .bool bB ∧ Aside0 (laws_FnExactGenDegen.j1 kq ap bB a0_0 a0_1 a0_2 a0_3 l0_4 am an ao al ai aj ak ah = some r) ∧ Aside0 (kq ≤ kj10) ∧ Aside0 (Kd.R k48 48 wc w.heap.size (fun k_ => some k_ ≠ ((.slice ar ah.length aq) : Value).ownBlock) (.slice aK al.length aH) al) ∧ Aside0 (Kd.R k46 46 wc w.heap.size (fun _ => True) (.slice aV av.length aQ) dN) ∧ Aside0 (Kd.R k48 48 wc w.heap.size (fun k_ => some k_ ≠ ((.slice aK al.length aH) : Value).ownBlock) (.slice ar ah.length aq) ah) ∧ Aside0 (wc.heap[aN]? = some (.cells #[.int .i64 a0_0, .int .i64 a0_1, .int .i64 a0_2, .int .i64 a0_3, (.slice A0_4 l0_4.length c0_4)] 24 (0, 0))) ∧ Aside0 (wc.heap[dw]? = some (.cells #[.int .i64 am, .int .i64 an, .int .i64 ao, (.slice aK al.length aH)] 28 (0, 0))) ∧ Aside0 (wc.heap[aO]? = some (.cells #[.int .i64 ax, .int .i64 ay, .int .i64 az, .int .i64 aA, (.slice aV av.length aQ)] 33 (0, 0))) ∧ Aside0 (wc.heap[bz]? = some (.cells #[.int .i64 ai, .int .i64 aj, .int .i64 ak, (.slice ar ah.length aq)] 28 (0, 0))) ∧ Aside0 (Below w.heap.size w wc))
      case first =>
       have H := HC60.out; clear HC60
       by_cases dv : dM < 0
       ·rw [if_pos dv] at H; have be : decide (dM < 0) = true := decide_eq_true dv; clear dv
        (first | rw [be] | (simp only [i64_w, i32_w]; rw [be]) | skip)
        have H' := Aside0.mk H; clear H
        go_wp2
        go_meet
        case rel => exact ⟨_, (true), vv, H', ⟨by have := HJ10.out; first | omega | exact Nat.le_refl _⟩, ⟨zR ad.out⟩, ⟨rM ab (fun _ hk => trivial)⟩, ⟨zR aa.out⟩, ⟨zB ac.out⟩, ⟨zB ag.out⟩, ⟨zB ae.out⟩, ⟨zB af.out⟩, ⟨zS HB.out⟩⟩
       ·rw [if_neg dv] at H; have be : decide (dM < 0) = false := decide_eq_false dv; clear dv
        (first | rw [be] | (simp only [i64_w, i32_w]; rw [be]) | skip)
        replace H := bI H; obtain ⟨bc, gW, H⟩ := H; replace H : (if bc = true then (laws_FnExactGenDegen.j1 kj10 ap (aJ != ap) a0_0 a0_1 a0_2 a0_3 l0_4 am an ao al ai aj ak ah) else (laws_FnExactGenDegen.j1 kj10 ap true a0_0 a0_1 a0_2 a0_3 l0_4 am an ao al ai aj ak ah)) = some r := H; have hP := Aside0.mk gW; clear gW
        by_cases ee : bc = true
        ·subst ee
         have H1 : (laws_FnExactGenDegen.j1 kj10 ap (aJ != ap) a0_0 a0_1 a0_2 a0_3 l0_4 am an ao al ai aj ak ah) = some r := by rw [if_pos rfl] at H; exact H
         clear H; have H := H1; clear H1; have H' := Aside0.mk H; clear H; obtain ⟨lA, lB⟩ := nn aD; obtain ⟨lC, lD⟩ := nn aE; obtain ⟨lE, lF⟩ := nn aF; obtain ⟨ef, eg, eh, ei, ej, ek, el, em⟩ := cz4 af; obtain ⟨lG, lH⟩ := nn aP; obtain ⟨lI, lJ⟩ := nn aY; obtain ⟨en, eo, ep, eq, er, es, et, eu⟩ := cz4 ag
         go_wp2_with (first | (go_at_call 8; (with_reducible refine (laws_eqAuto.calls kj10 ai aj ak _ _ ah am an ao _ _ al true _ ?side1 ?side2 ?side3 ?side4 hP.out).mono ?_); (case side1 => exact sC aa); (case side2 => exact sL aa); (case side3 => exact sC ad); (case side4 => exact sL ad); rintro e nl ⟨rfl, hb⟩; replace ad := xR ad hb; replace ab := xR ab hb; replace aa := xR aa hb; replace aI := xR aI hb; replace ac := xB ac hb; replace ag := xB ag hb; replace ae := xB ae hb; replace af := xB af hb; replace HB := xS HB hb; (try clear hb); (try clear hb2); (try clear hk); (try clear hi)))
         go_meet
         case rel => exact ⟨_, ((aJ != ap)), vv, H', ⟨by have := HJ10.out; first | omega | exact Nat.le_refl _⟩, ⟨zR ad.out⟩, ⟨rM ab (fun _ hk => trivial)⟩, ⟨zR aa.out⟩, ⟨zB ac.out⟩, ⟨zB ag.out⟩, ⟨zB ae.out⟩, ⟨zB af.out⟩, ⟨zS HB.out⟩⟩
        ·replace ee := Bool.eq_false_iff.mpr ee; subst ee
         have H1 : (laws_FnExactGenDegen.j1 kj10 ap true a0_0 a0_1 a0_2 a0_3 l0_4 am an ao al ai aj ak ah) = some r := by rw [if_neg (show ¬ (false = true) by decide)] at H; exact H
         clear H; have H := H1; clear H1; have H' := Aside0.mk H; clear H; obtain ⟨lK, lL⟩ := nn aD; obtain ⟨lM, lN⟩ := nn aE; obtain ⟨lO, lP⟩ := nn aF; obtain ⟨ev, ew, ex, ey, ez, eA, eB, eC⟩ := cz4 af; obtain ⟨lQ, lR⟩ := nn aP; obtain ⟨lS, lT⟩ := nn aY; obtain ⟨eD, eE, eF, eG, eH, eI, eJ, eK⟩ := cz4 ag
         go_wp2_with (first | (go_at_call 8; (with_reducible refine (laws_eqAuto.calls kj10 ai aj ak _ _ ah am an ao _ _ al false _ ?side1 ?side2 ?side3 ?side4 hP.out).mono ?_); (case side1 => exact sC aa); (case side2 => exact sL aa); (case side3 => exact sC ad); (case side4 => exact sL ad); rintro e nm ⟨rfl, hb⟩; replace ad := xR ad hb; replace ab := xR ab hb; replace aa := xR aa hb; replace aI := xR aI hb; replace ac := xB ac hb; replace ag := xB ag hb; replace ae := xB ae hb; replace af := xB af hb; replace HB := xS HB hb; (try clear hb); (try clear hb2); (try clear hk); (try clear hi)))
         go_meet
         case rel => exact ⟨_, (true), vv, H', ⟨by have := HJ10.out; first | omega | exact Nat.le_refl _⟩, ⟨zR ad.out⟩, ⟨rM ab (fun _ hk => trivial)⟩, ⟨zR aa.out⟩, ⟨zB ac.out⟩, ⟨zB ag.out⟩, ⟨zB ae.out⟩, ⟨zB af.out⟩, ⟨zS HB.out⟩⟩
      case rest =>
       clear HC60
       try clear c1
       try clear c2
       try clear p2
       try clear c3
       try clear eL
       try clear c4
       try clear c5
       try clear c6
       try clear c7
       try clear c8
       try clear c9
       try clear iX
       try clear hv
       try clear hw
       try clear hx
       try clear hy
       try clear hA
       try clear hB
       try clear dL
       try clear hC
       try clear hD
       try clear hE
       try clear hF
       try clear hG
       try clear hH
       try clear hI
       try clear hJ
       try clear hL
       try clear hM
       try clear dS
       try clear dT
       try clear iY
       try clear iZ
       try clear ja
       try clear dv
       try clear be
       try clear ee
       try clear jb
       try clear jc
       try clear jd
       try clear je
       try clear jf
       try clear jg
       try clear jh
       try clear ji
       try clear jj
       try clear jk
       try clear bC bD bE bF bG
       try clear bN bO bP bQ bR
       try clear bX bY bZ ca
       try clear cf cg ch ci cj
       try clear cp cq cr cs ct
       try clear cz cA cB cC
       try clear cH cI cJ cK
       try clear cP cQ cR cS
       try clear cY cZ da db
       try clear dg dh di dj
       try clear dA dB dC dD dE
       try clear dU dV dW dX dY
       try clear ef eg eh ei
       try clear en eo ep eq
       try clear ev ew ex ey
       try clear eD eE eF eG
       try clear bH
       try clear bJ
       try clear bK
       try clear bL
       try clear bM
       try clear bS
       try clear bT
       try clear bU
       try clear bV
       try clear bW
       try clear cb
       try clear cc
       try clear cd
       try clear ce
       try clear ck
       try clear cl
       try clear cm
       try clear cn
       try clear co
       try clear cu
       try clear cv
       try clear cw
       try clear cx
       try clear cy
       try clear cD
       try clear cE
       try clear cF
       try clear cG
       try clear cL
       try clear cM
       try clear cN
       try clear cO
       try clear cU
       try clear cV
       try clear cW
       try clear cX
       try clear dc
       try clear dd
       try clear de
       try clear df
       try clear dk
       try clear dl
       try clear dm
       try clear dn
       try clear dF
       try clear dG
       try clear dH
       try clear dI
       try clear dJ
       try clear dZ
       try clear ea
       try clear eb
       try clear ec
       try clear ed
       try clear ej
       try clear ek
       try clear el
       try clear em
       try clear er
       try clear es
       try clear et
       try clear eu
       try clear ez
       try clear eA
       try clear eB
       try clear eC
       try clear eH
       try clear eI
       try clear eJ
       try clear eK
       try clear p2
       obtain ⟨kq, bB, rfl, HA, HJ59, ad, ab, aa, ac, ag, ae, af, HB⟩ := hcut; have hl372004_59 := (Kd.R_reads' ab.out).1; rw [hl372004_59] at ab
       (try simp only [hl372004_59])
       (try simp only [hl372004_59] at ac)
       (try simp only [hl372004_59] at ag)
       (try simp only [hl372004_59] at ae)
       (try simp only [hl372004_59] at af)
       (try simp only [hl372004_59] at ad)
       (try simp only [hl372004_59] at aa)
       cases kq with
       | zero => exact absurd HA.out (by simp [laws_FnExactGenDegen.j1])
       | succ kj59 =>
        have H := HA.out; clear HA; simp only [laws_FnExactGenDegen.j1] at H
        by_cases fa : bB = true
        ·subst fa
         have H1 : (some false) = some r := by rw [if_pos rfl] at H; exact H
         clear H; have H := H1; clear H1; obtain rfl := Option.some.inj H
         go_wp2
         go_ret; exact ⟨vw, zS HB.out⟩
        ·replace fa := Bool.eq_false_iff.mpr fa; subst fa
         have H1 : ((laws_markAuto.f kj59 ai aj ak ah 1).bind fun bt392 => ((laws_heldAuto.f kj59 ai aj ak bt392.2 1).bind fun aM => (if aM < 0 then (some false) else (if aM = bt392.1 then ((laws_toGen.f kj59 a0_0 a0_1 a0_2 a0_3 l0_4).bind fun bt395 => ((impl_GenDegen.f kj59 bt395.1 bt395.2.1 bt395.2.2.1 bt395.2.2.2.1 bt395.2.2.2.2).bind fun bt402 => ((laws_eqAuto.f kj59 bt402.1 bt402.2.1 bt402.2.2.1 bt402.2.2.2.1 am an ao al).bind fun bd => (if bd = true then (laws_FnExactGenDegen.j2 kj59 bt392.1 (bt402.2.2.2.2 != ap) ai aj ak bt392.2) else (laws_FnExactGenDegen.j2 kj59 bt392.1 true ai aj ak bt392.2))))) else (some false))))) = some r := by rw [if_neg (show ¬ (false = true) by decide)] at H; exact H
         clear H; have H := H1; clear H1; replace H := bI H; obtain ⟨⟨aB, aw⟩, gX, H⟩ := H; replace H : ((laws_heldAuto.f kj59 ai aj ak aw 1).bind fun aM => (if aM < 0 then (some false) else (if aM = aB then ((laws_toGen.f kj59 a0_0 a0_1 a0_2 a0_3 l0_4).bind fun bt395 => ((impl_GenDegen.f kj59 bt395.1 bt395.2.1 bt395.2.2.1 bt395.2.2.2.1 bt395.2.2.2.2).bind fun bt402 => ((laws_eqAuto.f kj59 bt402.1 bt402.2.1 bt402.2.2.1 bt402.2.2.2.1 am an ao al).bind fun bd => (if bd = true then (laws_FnExactGenDegen.j2 kj59 aB (bt402.2.2.2.2 != ap) ai aj ak aw) else (laws_FnExactGenDegen.j2 kj59 aB true ai aj ak aw))))) else (some false)))) = some r := H; have dR := Aside0.mk gX; clear gX; replace H := bI H; obtain ⟨aM, gY, H⟩ := H; replace H : (if aM < 0 then (some false) else (if aM = aB then ((laws_toGen.f kj59 a0_0 a0_1 a0_2 a0_3 l0_4).bind fun bt395 => ((impl_GenDegen.f kj59 bt395.1 bt395.2.1 bt395.2.2.1 bt395.2.2.2.1 bt395.2.2.2.2).bind fun bt402 => ((laws_eqAuto.f kj59 bt402.1 bt402.2.1 bt402.2.2.1 bt402.2.2.2.1 am an ao al).bind fun bd => (if bd = true then (laws_FnExactGenDegen.j2 kj59 aB (bt402.2.2.2.2 != ap) ai aj ak aw) else (laws_FnExactGenDegen.j2 kj59 aB true ai aj ak aw))))) else (some false))) = some r := H; have gZ := Aside0.mk gY; clear gY
         by_cases dO : aM < 0
         ·rw [if_pos dO] at H; have gs : decide (aM < 0) = true := decide_eq_true dO; clear dO; obtain rfl := Option.some.inj H; obtain ⟨lU, lV⟩ := nn aD; obtain ⟨lW, lX⟩ := nn aE; obtain ⟨lY, lZ⟩ := nn aF; obtain ⟨gy, gz, gA, gB, gC, gD, gE, gF⟩ := cz4 af
          go_wp2_with (first | ((with_reducible refine gate_callee (f := 11) rfl ?_); refine gl_ (some 64) Try.func11 #[.agg #[.int .i64 ai, .int .i64 aj, .int .i64 ak, .slice ar ah.length aq], .int .i64 1] ?_; (with_reducible refine (laws_markAuto.calls kj59 ai aj ak (fun k_ => some k_ = (.slice ar ah.length aq : Value).ownBlock) (.slice ar ah.length aq) ah 1 aB aw w _ ?side1 ?side2 dR.out).mono ?_); (case side1 => repeat (first | (with_reducible first | exact HB.out | apply below_alloc | apply pw_below_drewN | apply below_drew1 | refine below_set ?_ bx.out | refine below_set ?_ dx.out | refine below_set ?_ dy.out | refine below_set ?_ dz.out) | exact HB.out)); (case side2 => exact Kd.R_tight rfl aa.out); rintro e no ⟨rfl, bj, hb, hkp⟩; refine ⟨_, rfl, ?_⟩; replace ad := Aside0.mk (Kd.R_mono (ok' := fun k_ => some k_ ≠ (.slice ar ah.length aq : Value).ownBlock) (Kd.R_keptB (ad.out) hkp (fun k_ hk_ hs_ => (hk_) hs_)) (fun k_ hk_ => hk_.1)); replace ab := Aside0.mk (Kd.R_mono (ok' := fun k_ => True) (Kd.R_keptB ((Kd.R_apart' ab.out (Kd.R_typed aa.out) (by decide))) hkp (fun k_ hk_ hs_ => (hk_.2) hs_)) (fun k_ hk_ => trivial)); replace ac := Aside0.mk (blk_kept (zB ac.out) hkp (fun hs_ => (fun e_ => (Kd.R_ne aa.out ac.out (by decide)) e_) hs_)); replace ag := Aside0.mk (blk_kept (zB ag.out) hkp (fun hs_ => (fun e_ => (Kd.R_ne aa.out ag.out (by decide)) e_) hs_)); replace ae := Aside0.mk (blk_kept (zB ae.out) hkp (fun hs_ => (fun e_ => (Kd.R_ne aa.out ae.out (by decide)) e_) hs_)); replace af := Aside0.mk (blk_kept (zB af.out) hkp (fun hs_ => (fun e_ => (Kd.R_ne aa.out af.out (by decide)) e_) hs_)); replace aa := Aside0.mk (Kd.R_reok rfl bj (fun k_ e_ => aa.out.1 k_ e_)); replace HB := Aside0.mk (hb); (try clear hb); (try clear hkp); (try clear bj); obtain ⟨gG, gH, gI, gJ, gK, gL, gM, gN⟩ := cz4 af) | ((with_reducible refine gate_callee (f := 12) rfl ?_); refine goesL_ (some 67) rfl rfl Try.func12 (by kernel_rfl) rfl #[.agg #[.int .i64 ai, .int .i64 aj, .int .i64 ak, .slice ar aw.length aq], .int .i64 1] rfl (by (try simp only [m3]); first | done | (rw [show aw.length = ah.length from (Kd.R_reads' aa.out).1.symm] <;> rfl) | rfl | (simp only [d2]; rfl)) ?_; (with_reducible refine (laws_heldAuto.calls kj59 ai aj ak _ _ aw 1 aM _ ?side1 ?side2 gZ.out).mono ?_); (case side1 => exact sC aa); (case side2 => rw [show aw.length = ah.length from (Kd.R_reads' aa.out).1.symm]; exact (Kd.R_reads' aa.out).2.1); rintro e np ⟨rfl, hb⟩; refine ⟨_, rfl, ?_⟩; replace ad := xR ad hb; replace ab := xR ab hb; replace aa := xR aa hb; replace ac := xB ac hb; replace ag := xB ag hb; replace ae := xB ae hb; replace af := xB af hb; replace HB := xS HB hb; (try clear hb); (try clear hb2); (try clear hk); (try clear hi)))
          go_ret; exact ⟨vw, zS HB.out⟩
         ·rw [if_neg dO] at H; have gs : decide (aM < 0) = false := decide_eq_false dO; clear dO
          by_cases bk : aM = aB
          ·rw [if_pos bk] at H; have fb : (aM == aB) = true := beq_iff_eq.mpr bk; have fc : (aM != aB) = false := bne_eq_false_iff_eq.mpr bk; clear bk; replace H := bI H; obtain ⟨⟨eQ, eR, eS, eT, eU⟩, gt, H⟩ := H; replace H : ((impl_GenDegen.f kj59 eQ eR eS eT eU).bind fun bt402 => ((laws_eqAuto.f kj59 bt402.1 bt402.2.1 bt402.2.2.1 bt402.2.2.2.1 am an ao al).bind fun bd => (if bd = true then (laws_FnExactGenDegen.j2 kj59 aB (bt402.2.2.2.2 != ap) ai aj ak aw) else (laws_FnExactGenDegen.j2 kj59 aB true ai aj ak aw)))) = some r := H; have ia := Aside0.mk gt; clear gt; replace H := bI H; obtain ⟨⟨bf, bg, bh, aR, dP⟩, gu, H⟩ := H; replace H : ((laws_eqAuto.f kj59 bf bg bh aR am an ao al).bind fun bd => (if bd = true then (laws_FnExactGenDegen.j2 kj59 aB (dP != ap) ai aj ak aw) else (laws_FnExactGenDegen.j2 kj59 aB true ai aj ak aw))) = some r := H; have ib := Aside0.mk gu; clear gu; have HC103 := Aside0.mk H; clear H; obtain ⟨jl, jm⟩ := nn aD; obtain ⟨jn, jo⟩ := nn aE; obtain ⟨jp, jq⟩ := nn aF; obtain ⟨fd, fe, ff, fg, fh, fi, fj, fk⟩ := cz4 af
           go_upto_region 25 with (first | ((with_reducible refine gate_callee (f := 11) rfl ?_); refine gl_ (some 64) Try.func11 #[.agg #[.int .i64 ai, .int .i64 aj, .int .i64 ak, .slice ar ah.length aq], .int .i64 1] ?_; (with_reducible refine (laws_markAuto.calls kj59 ai aj ak (fun k_ => some k_ = (.slice ar ah.length aq : Value).ownBlock) (.slice ar ah.length aq) ah 1 aB aw w _ ?side1 ?side2 dR.out).mono ?_); (case side1 => repeat (first | (with_reducible first | exact HB.out | apply below_alloc | apply pw_below_drewN | apply below_drew1 | refine below_set ?_ bx.out | refine below_set ?_ dx.out | refine below_set ?_ dy.out | refine below_set ?_ dz.out) | exact HB.out)); (case side2 => exact Kd.R_tight rfl aa.out); rintro e mg ⟨rfl, bj, hb, hkp⟩; refine ⟨_, rfl, ?_⟩; replace ad := Aside0.mk (Kd.R_mono (ok' := fun k_ => some k_ ≠ (.slice ar ah.length aq : Value).ownBlock) (Kd.R_keptB (ad.out) hkp (fun k_ hk_ hs_ => (hk_) hs_)) (fun k_ hk_ => hk_.1)); replace ab := Aside0.mk (Kd.R_mono (ok' := fun k_ => True) (Kd.R_keptB ((Kd.R_apart' ab.out (Kd.R_typed aa.out) (by decide))) hkp (fun k_ hk_ hs_ => (hk_.2) hs_)) (fun k_ hk_ => trivial)); replace ac := Aside0.mk (blk_kept (zB ac.out) hkp (fun hs_ => (fun e_ => (Kd.R_ne aa.out ac.out (by decide)) e_) hs_)); replace ag := Aside0.mk (blk_kept (zB ag.out) hkp (fun hs_ => (fun e_ => (Kd.R_ne aa.out ag.out (by decide)) e_) hs_)); replace ae := Aside0.mk (blk_kept (zB ae.out) hkp (fun hs_ => (fun e_ => (Kd.R_ne aa.out ae.out (by decide)) e_) hs_)); replace af := Aside0.mk (blk_kept (zB af.out) hkp (fun hs_ => (fun e_ => (Kd.R_ne aa.out af.out (by decide)) e_) hs_)); replace aa := Aside0.mk (Kd.R_reok rfl bj (fun k_ e_ => aa.out.1 k_ e_)); replace HB := Aside0.mk (hb); (try clear hb); (try clear hkp); (try clear bj); obtain ⟨fl, fm, fn, fo, fp, fq, fr, fs⟩ := cz4 af) | ((with_reducible refine gate_callee (f := 12) rfl ?_); refine goesL_ (some 67) rfl rfl Try.func12 (by kernel_rfl) rfl #[.agg #[.int .i64 ai, .int .i64 aj, .int .i64 ak, .slice ar aw.length aq], .int .i64 1] rfl (by (try simp only [m3]); first | done | (rw [show aw.length = ah.length from (Kd.R_reads' aa.out).1.symm] <;> rfl) | rfl | (simp only [d2]; rfl)) ?_; (with_reducible refine (laws_heldAuto.calls kj59 ai aj ak _ _ aw 1 aM _ ?side1 ?side2 gZ.out).mono ?_); (case side1 => exact sC aa); (case side2 => rw [show aw.length = ah.length from (Kd.R_reads' aa.out).1.symm]; exact (Kd.R_reads' aa.out).2.1); rintro e mh ⟨rfl, hb⟩; refine ⟨_, rfl, ?_⟩; replace ad := xR ad hb; replace ab := xR ab hb; replace aa := xR aa hb; replace ac := xB ac hb; replace ag := xB ag hb; replace ae := xB ae hb; replace af := xB af hb; replace HB := xS HB hb; (try clear hb); (try clear hb2); (try clear hk); (try clear hi); obtain ⟨jr, js⟩ := nn eX; obtain ⟨jt, ju⟩ := nn eY; obtain ⟨ft, fu, fv, fw, fx, fy, fz, fA, fB, fC⟩ := cz5 ac) | ((with_reducible refine gate_callee (f := 6) rfl ?_); refine gl_ (some 75) Try.func6 #[.agg #[.int .i64 a0_0, .int .i64 a0_1, .int .i64 a0_2, .int .i64 a0_3, .slice A0_4 l0_4.length c0_4]] ?_; (with_reducible refine (laws_toGen.calls kj59 a0_0 a0_1 a0_2 a0_3 _ _ l0_4 eQ eR eS eT eU _ ?side1 ?side2 ia.out).mono ?_); (case side1 => exact zC (Kd.C_below HR0_4.out HB.out)); (case side2 => exact HC0_4.out); rintro e mi ⟨mj, rfl, ho0, hb⟩; refine ⟨_, rfl, ?_⟩; replace ad := xR ad hb; replace aa := xR aa hb; have ba := rW1 ho0 ab HB; replace ab := xE ab ho0 hb; replace ac := xB ac hb; replace ag := xB ag hb; replace ae := xB ae hb; replace af := xB af hb; replace HB := xS HB hb; (try clear hb); (try clear hb2); (try clear hk); (try clear hi); (try clear ho0); obtain ⟨hh, hj, hl⟩ := Kd.R_slice ba.out; subst hl) | ((with_reducible refine gate_callee (f := 7) rfl ?_); refine gl_ (some 76) Try.func7 #[.agg #[.int .i64 eQ, .int .i64 eR, .int .i64 eS, .int .i64 eT, .slice hh eU.length hj]] ?_; (with_reducible refine (impl_GenDegen.calls kj59 eQ eR eS eT _ _ eU bf bg bh aR dP _ ?side1 ?side2 ib.out).mono ?_); (case side1 => exact sC ba); (case side2 => exact sL ba); rintro e ml ⟨mm, rfl, ho0, hb⟩; refine ⟨_, rfl, ?_⟩; replace ab := xR ab hb; replace ba := xR ba hb; have aU := rW2 ho0 ad aa HB; replace ad := xE ad ho0 hb; replace aa := xE aa ho0 hb; replace ac := xB ac hb; replace ag := xB ag hb; replace ae := xB ae hb; replace af := xB af hb; replace HB := xS HB hb; (try clear hb); (try clear hb2); (try clear hk); (try clear hi); (try clear ho0)) | ((with_reducible refine gate_dst (N := 12) rfl ?_); refine bx_ 12 #[.int .i64 0, .int .i64 0, .int .i64 0, .slice none 0 0] 28 ?_; intro eV hg mn hbox hb; replace ad := xR ad hb; replace ab := xR ab hb; replace aa := xR aa hb; replace ba := xR ba hb; replace aU := xR aU hb; have au := Aside0.mk (hbox); have ma := xG HB hg; have mb := xG HB hg; replace HB := xS HB hb; have hQ := xN ac hg; have bl := xM ac hg; replace ac := xB ac hb; have hR := xN ag hg; have bm := xM ag hg; replace ag := xB ag hb; have hS := xN ae hg; have bn := xM ae hg; replace ae := xB ae hb; have bo := xN af hg; have bp := xM af hg; replace af := xB af hb; clear hb hbox hg; obtain ⟨jv, jw⟩ := nn bl; obtain ⟨jx, jy⟩ := nn bm; obtain ⟨jz, jA⟩ := nn bn; obtain ⟨jB, jC⟩ := nn bp; obtain ⟨fD, fE, fF, fG, fH, fI, fJ, fK⟩ := cz4 au; obtain ⟨bb, aX, hm⟩ := Kd.R_slice aU.out; subst hm))
           (try simp only [Act.put, q3])
           go_cut [87] (fun jD wc => ∃ (kq : Nat) (bq : Bool), jD = .bool bq ∧ Aside0 (laws_FnExactGenDegen.j2 kq aB bq ai aj ak aw = some r) ∧ Aside0 (kq ≤ kj59) ∧ Aside0 (Kd.R k48 48 wc w.heap.size (fun k_ => some k_ ≠ ((.slice ar ah.length aq) : Value).ownBlock ∧ some k_ ≠ ((.slice bb aR.length aX) : Value).ownBlock) (.slice aK al.length aH) al) ∧ Aside0 (Kd.R k46 46 wc w.heap.size (fun _ => True) (.slice aV dN.length aQ) dN) ∧ Aside0 (Kd.R k48 48 wc w.heap.size (fun k_ => some k_ ≠ ((.slice aK al.length aH) : Value).ownBlock ∧ some k_ ≠ ((.slice bb aR.length aX) : Value).ownBlock) (.slice ar ah.length aq) aw) ∧ Aside0 (Kd.R k48 48 wc w.heap.size (fun k_ => some k_ ≠ ((.slice aK al.length aH) : Value).ownBlock ∧ some k_ ≠ ((.slice ar ah.length aq) : Value).ownBlock) (.slice bb aR.length aX) aR) ∧ Aside0 (wc.heap[aN]? = some (.cells #[.int .i64 a0_0, .int .i64 a0_1, .int .i64 a0_2, .int .i64 a0_3, (.slice A0_4 l0_4.length c0_4)] 24 (0, 0))) ∧ Aside0 (wc.heap[dw]? = some (.cells #[.int .i64 am, .int .i64 an, .int .i64 ao, (.slice aK al.length aH)] 28 (0, 0))) ∧ Aside0 (wc.heap[aO]? = some (.cells #[.int .i64 ax, .int .i64 ay, .int .i64 az, .int .i64 aA, (.slice aV dN.length aQ)] 33 (0, 0))) ∧ Aside0 (wc.heap[bz]? = some (.cells #[.int .i64 ai, .int .i64 aj, .int .i64 ak, (.slice ar ah.length aq)] 28 (0, 0))) ∧ Aside0 (wc.heap[eV]? = some (.cells #[.int .i64 bf, .int .i64 bg, .int .i64 bh, (.slice bb aR.length aX)] 28 (0, 0))) ∧ Aside0 (Below w.heap.size w wc))
           case first =>
            have H := HC103.out; clear HC103; replace H := bI H; obtain ⟨bd, gv, H⟩ := H; replace H : (if bd = true then (laws_FnExactGenDegen.j2 kj59 aB (dP != ap) ai aj ak aw) else (laws_FnExactGenDegen.j2 kj59 aB true ai aj ak aw)) = some r := H; have ha := Aside0.mk gv; clear gv
            by_cases dQ : bd = true
            ·subst dQ
             have H1 : (laws_FnExactGenDegen.j2 kj59 aB (dP != ap) ai aj ak aw) = some r := by rw [if_pos rfl] at H; exact H
             clear H; have H := H1; clear H1; have H' := Aside0.mk H; clear H; obtain ⟨jE, jF⟩ := nn bl; obtain ⟨jG, jH⟩ := nn bm; obtain ⟨jI, jJ⟩ := nn bn; obtain ⟨jK, jL⟩ := nn bp; obtain ⟨fL, fM, fN, fO, fP, fQ, fR, fS⟩ := cz4 au; obtain ⟨jM, jN⟩ := nn aP; obtain ⟨jO, jP⟩ := nn aY; obtain ⟨jQ, jR⟩ := nn du; obtain ⟨fT, fU, fV, fW, fX, fY, fZ, ga⟩ := cz4 ag
             go_wp2_with (first | ((with_reducible refine gate_callee (f := 8) rfl ?_); refine gl_ (some 81) Try.func8 #[.agg #[.int .i64 bf, .int .i64 bg, .int .i64 bh, .slice bb aR.length aX], .agg #[.int .i64 am, .int .i64 an, .int .i64 ao, .slice aK al.length aH]] ?_; (with_reducible refine (laws_eqAuto.calls kj59 bf bg bh _ _ aR am an ao _ _ al true _ ?side1 ?side2 ?side3 ?side4 ha.out).mono ?_); (case side1 => refine (Kd.R_reads' (e := 48) (base := w.heap.size) (ok := fun k_ => ((True ∧ some k_ ≠ (.slice aK al.length aH : Value).ownBlock) ∧ some k_ ≠ (.slice ar ah.length aq : Value).ownBlock)) (n := aR.length) (c := aX) ?_).2.2; exact (zR (xF4 aU au))); (case side2 => exact sL aU); (case side3 => refine (Kd.R_reads' (e := 48) (base := w.heap.size) (ok := fun k_ => (some k_ ≠ (.slice ar ah.length aq : Value).ownBlock ∧ some k_ ≠ (.slice bb aR.length aX : Value).ownBlock)) (n := al.length) (c := aH) ?_).2.2; exact (zR (xF4 ad au))); (case side4 => exact sL ad); rintro e mo ⟨rfl, hb⟩; refine ⟨_, rfl, ?_⟩; replace ad := Aside0.mk (Kd.R_below (zR (xF4 ad au)) hb); replace ab := Aside0.mk (Kd.R_below (zR (xF4 ab au)) hb); replace aa := Aside0.mk (Kd.R_below (zR (xF4 aa au)) hb); replace ba := Aside0.mk (Kd.R_below (zR (xF4 ba au)) hb); replace aU := Aside0.mk (Kd.R_below (zR (xF4 aU au)) hb); replace ac := xB ac hb; replace ag := xB ag hb; replace ae := xB ae hb; replace af := xB af hb; replace au := Aside0.mk (blk_below (g := eV) (o := .cells #[.int .i64 bf, .int .i64 bg, .int .i64 bh, .slice bb aR.length aX] 28 (0, 0)) (xP4 au.out) hb); replace HB := xS HB hb; (try clear hb); (try clear hb2); (try clear hk); (try clear hi)))
             go_meet
             case rel => exact ⟨_, ((dP != ap)), vv, H', ⟨by have := HJ10.out; have := HJ59.out; first | omega | exact Nat.le_refl _⟩, ⟨by (try simp only [hl372004_59]); (with_reducible repeat (first | apply Kd.R_alloc | apply Kd.R_drewN | apply Kd.R_drew)); exact ad.out⟩, ⟨by (try simp only [hl372004_59]); (with_reducible repeat (first | apply Kd.R_alloc | apply Kd.R_drewN | apply Kd.R_drew)); exact Kd.R_mono ab.out (fun _ hk => trivial)⟩, ⟨by (try simp only [hl372004_59]); (with_reducible repeat (first | apply Kd.R_alloc | apply Kd.R_drewN | apply Kd.R_drew)); exact aa.out⟩, ⟨by (try simp only [hl372004_59]); (with_reducible repeat (first | apply Kd.R_alloc | apply Kd.R_drewN | apply Kd.R_drew)); exact Kd.R_mono aU.out (fun _ hk => ⟨hk.1.2, hk.2⟩)⟩, ⟨by (try simp only [hl372004_59]); (with_reducible repeat (first | refine blk_drewN ?_ _ | refine blk_drew ?_ | refine blk_alloc ?_ _)); exact ac.out⟩, ⟨by (try simp only [hl372004_59]); (with_reducible repeat (first | refine blk_drewN ?_ _ | refine blk_drew ?_ | refine blk_alloc ?_ _)); exact ag.out⟩, ⟨by (try simp only [hl372004_59]); (with_reducible repeat (first | refine blk_drewN ?_ _ | refine blk_drew ?_ | refine blk_alloc ?_ _)); exact ae.out⟩, ⟨by (try simp only [hl372004_59]); (with_reducible repeat (first | refine blk_drewN ?_ _ | refine blk_drew ?_ | refine blk_alloc ?_ _)); exact af.out⟩, ⟨by (try simp only [hl372004_59]); (with_reducible repeat (first | refine blk_drewN ?_ _ | refine blk_drew ?_ | refine blk_alloc ?_ _)); exact au.out⟩, ⟨zS HB.out⟩⟩
            ·replace dQ := Bool.eq_false_iff.mpr dQ; subst dQ
             have H1 : (laws_FnExactGenDegen.j2 kj59 aB true ai aj ak aw) = some r := by rw [if_neg (show ¬ (false = true) by decide)] at H; exact H
             clear H; have H := H1; clear H1; have H' := Aside0.mk H; clear H; obtain ⟨jS, jT⟩ := nn bl; obtain ⟨jU, jV⟩ := nn bm; obtain ⟨jW, jX⟩ := nn bn; obtain ⟨jY, jZ⟩ := nn bp; obtain ⟨gb, gc, gd, ge, gf, gg, gh, gi⟩ := cz4 au; obtain ⟨ka, kb⟩ := nn aP; obtain ⟨kc, kd⟩ := nn aY; obtain ⟨ke, kf⟩ := nn du; obtain ⟨gj, gk, gl, gm, gn, go, gp, gq⟩ := cz4 ag
             go_wp2_with (first | ((with_reducible refine gate_callee (f := 8) rfl ?_); refine gl_ (some 81) Try.func8 #[.agg #[.int .i64 bf, .int .i64 bg, .int .i64 bh, .slice bb aR.length aX], .agg #[.int .i64 am, .int .i64 an, .int .i64 ao, .slice aK al.length aH]] ?_; (with_reducible refine (laws_eqAuto.calls kj59 bf bg bh _ _ aR am an ao _ _ al false _ ?side1 ?side2 ?side3 ?side4 ha.out).mono ?_); (case side1 => refine (Kd.R_reads' (e := 48) (base := w.heap.size) (ok := fun k_ => ((True ∧ some k_ ≠ (.slice aK al.length aH : Value).ownBlock) ∧ some k_ ≠ (.slice ar ah.length aq : Value).ownBlock)) (n := aR.length) (c := aX) ?_).2.2; exact (zR (xF4 aU au))); (case side2 => exact sL aU); (case side3 => refine (Kd.R_reads' (e := 48) (base := w.heap.size) (ok := fun k_ => (some k_ ≠ (.slice ar ah.length aq : Value).ownBlock ∧ some k_ ≠ (.slice bb aR.length aX : Value).ownBlock)) (n := al.length) (c := aH) ?_).2.2; exact (zR (xF4 ad au))); (case side4 => exact sL ad); rintro e mp ⟨rfl, hb⟩; refine ⟨_, rfl, ?_⟩; replace ad := Aside0.mk (Kd.R_below (zR (xF4 ad au)) hb); replace ab := Aside0.mk (Kd.R_below (zR (xF4 ab au)) hb); replace aa := Aside0.mk (Kd.R_below (zR (xF4 aa au)) hb); replace ba := Aside0.mk (Kd.R_below (zR (xF4 ba au)) hb); replace aU := Aside0.mk (Kd.R_below (zR (xF4 aU au)) hb); replace ac := xB ac hb; replace ag := xB ag hb; replace ae := xB ae hb; replace af := xB af hb; replace au := Aside0.mk (blk_below (g := eV) (o := .cells #[.int .i64 bf, .int .i64 bg, .int .i64 bh, .slice bb aR.length aX] 28 (0, 0)) (xP4 au.out) hb); replace HB := xS HB hb; (try clear hb); (try clear hb2); (try clear hk); (try clear hi)))
             go_meet
             case rel => exact ⟨_, (true), vv, H', ⟨by have := HJ10.out; have := HJ59.out; first | omega | exact Nat.le_refl _⟩, ⟨by (try simp only [hl372004_59]); (with_reducible repeat (first | apply Kd.R_alloc | apply Kd.R_drewN | apply Kd.R_drew)); exact ad.out⟩, ⟨by (try simp only [hl372004_59]); (with_reducible repeat (first | apply Kd.R_alloc | apply Kd.R_drewN | apply Kd.R_drew)); exact Kd.R_mono ab.out (fun _ hk => trivial)⟩, ⟨by (try simp only [hl372004_59]); (with_reducible repeat (first | apply Kd.R_alloc | apply Kd.R_drewN | apply Kd.R_drew)); exact aa.out⟩, ⟨by (try simp only [hl372004_59]); (with_reducible repeat (first | apply Kd.R_alloc | apply Kd.R_drewN | apply Kd.R_drew)); exact Kd.R_mono aU.out (fun _ hk => ⟨hk.1.2, hk.2⟩)⟩, ⟨by (try simp only [hl372004_59]); (with_reducible repeat (first | refine blk_drewN ?_ _ | refine blk_drew ?_ | refine blk_alloc ?_ _)); exact ac.out⟩, ⟨by (try simp only [hl372004_59]); (with_reducible repeat (first | refine blk_drewN ?_ _ | refine blk_drew ?_ | refine blk_alloc ?_ _)); exact ag.out⟩, ⟨by (try simp only [hl372004_59]); (with_reducible repeat (first | refine blk_drewN ?_ _ | refine blk_drew ?_ | refine blk_alloc ?_ _)); exact ae.out⟩, ⟨by (try simp only [hl372004_59]); (with_reducible repeat (first | refine blk_drewN ?_ _ | refine blk_drew ?_ | refine blk_alloc ?_ _)); exact af.out⟩, ⟨by (try simp only [hl372004_59]); (with_reducible repeat (first | refine blk_drewN ?_ _ | refine blk_drew ?_ | refine blk_alloc ?_ _)); exact au.out⟩, ⟨zS HB.out⟩⟩
           case rest =>
            clear HC103
            try clear c1
            try clear c2
            try clear p2
            try clear c3
            try clear eL
            try clear c4
            try clear c5
            try clear c6
            try clear c7
            try clear c8
            try clear c9
            try clear iX
            try clear nq
            try clear nr
            try clear ns
            try clear nt
            try clear hv
            try clear hw
            try clear hx
            try clear hy
            try clear hA
            try clear hB
            try clear dL
            try clear hC
            try clear hD
            try clear hE
            try clear hF
            try clear hG
            try clear hH
            try clear hI
            try clear hJ
            try clear hL
            try clear hM
            try clear dS
            try clear dT
            try clear iY
            try clear iZ
            try clear ja
            try clear dv
            try clear be
            try clear ee
            try clear jb
            try clear jc
            try clear jd
            try clear je
            try clear jf
            try clear jg
            try clear jh
            try clear ji
            try clear jj
            try clear jk
            try clear fa
            try clear dO
            try clear gs
            try clear nu
            try clear nv
            try clear nw
            try clear bk
            try clear fb
            try clear fc
            try clear mq
            try clear mr
            try clear ms
            try clear mt
            try clear mu
            try clear mv
            try clear mw
            try clear mx
            try clear my
            try clear dQ
            try clear mz
            try clear mA
            try clear mB
            try clear mC
            try clear mD
            try clear mE
            try clear mF
            try clear mG
            try clear mH
            try clear mI
            try clear mJ
            try clear mK
            try clear mL
            try clear mM
            try clear fd fe ff fg
            try clear fl fm fn fo
            try clear ft fu fv fw fx
            try clear fD fE fF fG
            try clear fL fM fN fO
            try clear fT fU fV fW
            try clear bC bD bE bF bG
            try clear gb gc gd ge
            try clear gj gk gl gm
            try clear bN bO bP bQ bR
            try clear bX bY bZ ca
            try clear cf cg ch ci cj
            try clear cp cq cr cs ct
            try clear cz cA cB cC
            try clear cH cI cJ cK
            try clear cP cQ cR cS
            try clear cY cZ da db
            try clear dg dh di dj
            try clear dA dB dC dD dE
            try clear dU dV dW dX dY
            try clear ef eg eh ei
            try clear en eo ep eq
            try clear ev ew ex ey
            try clear eD eE eF eG
            try clear gy gz gA gB
            try clear gG gH gI gJ
            try clear fh
            try clear fi
            try clear fj
            try clear fk
            try clear fp
            try clear fq
            try clear fr
            try clear fs
            try clear fy
            try clear fz
            try clear fA
            try clear fB
            try clear fC
            try clear fH
            try clear fI
            try clear fJ
            try clear fK
            try clear fP
            try clear fQ
            try clear fR
            try clear fS
            try clear fX
            try clear fY
            try clear fZ
            try clear ga
            try clear bH
            try clear bJ
            try clear bK
            try clear bL
            try clear bM
            try clear gf
            try clear gg
            try clear gh
            try clear gi
            try clear gn
            try clear go
            try clear gp
            try clear gq
            try clear bS
            try clear bT
            try clear bU
            try clear bV
            try clear bW
            try clear cb
            try clear cc
            try clear cd
            try clear ce
            try clear ck
            try clear cl
            try clear cm
            try clear cn
            try clear co
            try clear cu
            try clear cv
            try clear cw
            try clear cx
            try clear cy
            try clear cD
            try clear cE
            try clear cF
            try clear cG
            try clear cL
            try clear cM
            try clear cN
            try clear cO
            try clear cU
            try clear cV
            try clear cW
            try clear cX
            try clear dc
            try clear dd
            try clear de
            try clear df
            try clear dk
            try clear dl
            try clear dm
            try clear dn
            try clear dF
            try clear dG
            try clear dH
            try clear dI
            try clear dJ
            try clear dZ
            try clear ea
            try clear eb
            try clear ec
            try clear ed
            try clear ej
            try clear ek
            try clear el
            try clear em
            try clear er
            try clear es
            try clear et
            try clear eu
            try clear ez
            try clear eA
            try clear eB
            try clear eC
            try clear eH
            try clear eI
            try clear eJ
            try clear eK
            try clear gC
            try clear gD
            try clear gE
            try clear gF
            try clear gK
            try clear gL
            try clear gM
            try clear gN
            try clear p2
            obtain ⟨kq, bq, rfl, HA, HJ102, ad, ab, aa, aS, ac, ag, ae, af, au, HB⟩ := hcut; have hl380003_102 := (Kd.R_reads' aa.out).1; rw [hl380003_102] at aa
            (try simp only [hl380003_102])
            (try simp only [hl380003_102] at ac)
            (try simp only [hl380003_102] at ag)
            (try simp only [hl380003_102] at ae)
            (try simp only [hl380003_102] at af)
            (try simp only [hl380003_102] at au)
            (try simp only [hl380003_102] at ad)
            (try simp only [hl380003_102] at ab)
            (try simp only [hl380003_102] at aS)
            cases kq with
            | zero => exact absurd HA.out (by simp [laws_FnExactGenDegen.j2])
            | succ kj102 =>
             have H := HA.out; clear HA; simp only [laws_FnExactGenDegen.j2] at H
             by_cases eW : bq = true
             ·subst eW
              have H1 : (some false) = some r := by rw [if_pos rfl] at H; exact H
              clear H; have H := H1; clear H1; obtain rfl := Option.some.inj H
              go_wp2
              go_ret; exact ⟨vw, zS HB.out⟩
             ·replace eW := Bool.eq_false_iff.mpr eW; subst eW
              have H1 : ((laws_heldAuto.f kj102 ai aj ak aw 1).bind fun aW => (if aW < 0 then (some false) else (if aW = aB then (some true) else (some false)))) = some r := by rw [if_neg (show ¬ (false = true) by decide)] at H; exact H
              clear H; have H := H1; clear H1; replace H := bI H; obtain ⟨aW, gw, H⟩ := H; replace H : (if aW < 0 then (some false) else (if aW = aB then (some true) else (some false))) = some r := H; have gr := Aside0.mk gw; clear gw
              by_cases dq : aW < 0
              ·rw [if_pos dq] at H; have hc : decide (aW < 0) = true := decide_eq_true dq; clear dq; obtain rfl := Option.some.inj H; obtain ⟨kg, kh⟩ := nn aD; obtain ⟨ki, kj⟩ := nn aE; obtain ⟨kk, kl⟩ := nn aF; obtain ⟨km, kn⟩ := nn bo; obtain ⟨ic, id, ie, ig, ih, ii, ij, ik⟩ := cz4 af
               go_wp2_with (first | ((with_reducible refine gate_callee (f := 12) rfl ?_); refine gl_ (some 90) Try.func12 #[.agg #[.int .i64 ai, .int .i64 aj, .int .i64 ak, .slice ar aw.length aq], .int .i64 1] ?_; (with_reducible refine (laws_heldAuto.calls kj102 ai aj ak _ _ aw 1 aW _ ?side1 ?side2 gr.out).mono ?_); (case side1 => exact sC aa); (case side2 => exact sL aa); rintro e mN ⟨rfl, hb⟩; refine ⟨_, rfl, ?_⟩; replace ad := xR ad hb; replace ab := xR ab hb; replace aa := xR aa hb; replace aS := xR aS hb; replace ac := xB ac hb; replace ag := xB ag hb; replace ae := xB ae hb; replace af := xB af hb; replace au := xB au hb; replace HB := xS HB hb; (try clear hb); (try clear hb2); (try clear hk); (try clear hi)))
               go_ret; exact ⟨vw, zS HB.out⟩
              ·rw [if_neg dq] at H; have hc : decide (aW < 0) = false := decide_eq_false dq; clear dq
               by_cases bw : aW = aB
               ·rw [if_pos bw] at H; have hd : (aW == aB) = true := beq_iff_eq.mpr bw; have he : (aW != aB) = false := bne_eq_false_iff_eq.mpr bw; clear bw; obtain rfl := Option.some.inj H; obtain ⟨ko, kp⟩ := nn aD; obtain ⟨kr, ks⟩ := nn aE; obtain ⟨kt, ku⟩ := nn aF; obtain ⟨kv, kw⟩ := nn bo; obtain ⟨il, im, io, ip, iq, ir, it, iu⟩ := cz4 af
                go_wp2_with (first | ((with_reducible refine gate_callee (f := 12) rfl ?_); refine gl_ (some 90) Try.func12 #[.agg #[.int .i64 ai, .int .i64 aj, .int .i64 ak, .slice ar aw.length aq], .int .i64 1] ?_; (with_reducible refine (laws_heldAuto.calls kj102 ai aj ak _ _ aw 1 aW _ ?side1 ?side2 gr.out).mono ?_); (case side1 => exact sC aa); (case side2 => exact sL aa); rintro e mO ⟨rfl, hb⟩; refine ⟨_, rfl, ?_⟩; replace ad := xR ad hb; replace ab := xR ab hb; replace aa := xR aa hb; replace aS := xR aS hb; replace ac := xB ac hb; replace ag := xB ag hb; replace ae := xB ae hb; replace af := xB af hb; replace au := xB au hb; replace HB := xS HB hb; (try clear hb); (try clear hb2); (try clear hk); (try clear hi)))
                go_ret; exact ⟨vw, zS HB.out⟩
               ·rw [if_neg bw] at H; have hd : (aW == aB) = false := beq_eq_false_iff_ne.mpr bw; have he : (aW != aB) = true := bne_iff_ne.mpr bw; obtain rfl := Option.some.inj H; obtain ⟨kx, ky⟩ := nn aD; obtain ⟨kz, kA⟩ := nn aE; obtain ⟨kB, kC⟩ := nn aF; obtain ⟨kD, kE⟩ := nn bo; obtain ⟨iv, iw, ix, iy, iz, iA, iB, iC⟩ := cz4 af
                go_wp2_with (first | ((with_reducible refine gate_callee (f := 12) rfl ?_); refine gl_ (some 90) Try.func12 #[.agg #[.int .i64 ai, .int .i64 aj, .int .i64 ak, .slice ar aw.length aq], .int .i64 1] ?_; (with_reducible refine (laws_heldAuto.calls kj102 ai aj ak _ _ aw 1 aW _ ?side1 ?side2 gr.out).mono ?_); (case side1 => exact sC aa); (case side2 => exact sL aa); rintro e mP ⟨rfl, hb⟩; refine ⟨_, rfl, ?_⟩; replace ad := xR ad hb; replace ab := xR ab hb; replace aa := xR aa hb; replace aS := xR aS hb; replace ac := xB ac hb; replace ag := xB ag hb; replace ae := xB ae hb; replace af := xB af hb; replace au := xB au hb; replace HB := xS HB hb; (try clear hb); (try clear hb2); (try clear hk); (try clear hi)))
                go_ret; exact ⟨vw, zS HB.out⟩
          ·rw [if_neg bk] at H; have fb : (aM == aB) = false := beq_eq_false_iff_ne.mpr bk; have fc : (aM != aB) = true := bne_iff_ne.mpr bk; obtain rfl := Option.some.inj H; obtain ⟨kF, kG⟩ := nn aD; obtain ⟨kH, kI⟩ := nn aE; obtain ⟨kJ, kK⟩ := nn aF; obtain ⟨iD, iE, iF, iG, iH, iI, iJ, iK⟩ := cz4 af
           go_wp2_with (first | ((with_reducible refine gate_callee (f := 11) rfl ?_); refine gl_ (some 64) Try.func11 #[.agg #[.int .i64 ai, .int .i64 aj, .int .i64 ak, .slice ar ah.length aq], .int .i64 1] ?_; (with_reducible refine (laws_markAuto.calls kj59 ai aj ak (fun k_ => some k_ = (.slice ar ah.length aq : Value).ownBlock) (.slice ar ah.length aq) ah 1 aB aw w _ ?side1 ?side2 dR.out).mono ?_); (case side1 => repeat (first | (with_reducible first | exact HB.out | apply below_alloc | apply pw_below_drewN | apply below_drew1 | refine below_set ?_ bx.out | refine below_set ?_ dx.out | refine below_set ?_ dy.out | refine below_set ?_ dz.out) | exact HB.out)); (case side2 => exact Kd.R_tight rfl aa.out); rintro e mQ ⟨rfl, bj, hb, hkp⟩; refine ⟨_, rfl, ?_⟩; replace ad := Aside0.mk (Kd.R_mono (ok' := fun k_ => some k_ ≠ (.slice ar ah.length aq : Value).ownBlock) (Kd.R_keptB (ad.out) hkp (fun k_ hk_ hs_ => (hk_) hs_)) (fun k_ hk_ => hk_.1)); replace ab := Aside0.mk (Kd.R_mono (ok' := fun k_ => True) (Kd.R_keptB ((Kd.R_apart' ab.out (Kd.R_typed aa.out) (by decide))) hkp (fun k_ hk_ hs_ => (hk_.2) hs_)) (fun k_ hk_ => trivial)); replace ac := Aside0.mk (blk_kept (zB ac.out) hkp (fun hs_ => (fun e_ => (Kd.R_ne aa.out ac.out (by decide)) e_) hs_)); replace ag := Aside0.mk (blk_kept (zB ag.out) hkp (fun hs_ => (fun e_ => (Kd.R_ne aa.out ag.out (by decide)) e_) hs_)); replace ae := Aside0.mk (blk_kept (zB ae.out) hkp (fun hs_ => (fun e_ => (Kd.R_ne aa.out ae.out (by decide)) e_) hs_)); replace af := Aside0.mk (blk_kept (zB af.out) hkp (fun hs_ => (fun e_ => (Kd.R_ne aa.out af.out (by decide)) e_) hs_)); replace aa := Aside0.mk (Kd.R_reok rfl bj (fun k_ e_ => aa.out.1 k_ e_)); replace HB := Aside0.mk (hb); (try clear hb); (try clear hkp); (try clear bj); obtain ⟨iL, iM, iN, iO, iP, iQ, iR, iS⟩ := cz4 af) | ((with_reducible refine gate_callee (f := 12) rfl ?_); refine goesL_ (some 67) rfl rfl Try.func12 (by kernel_rfl) rfl #[.agg #[.int .i64 ai, .int .i64 aj, .int .i64 ak, .slice ar aw.length aq], .int .i64 1] rfl (by (try simp only [m3]); first | done | (rw [show aw.length = ah.length from (Kd.R_reads' aa.out).1.symm] <;> rfl) | rfl | (simp only [d2]; rfl)) ?_; (with_reducible refine (laws_heldAuto.calls kj59 ai aj ak _ _ aw 1 aM _ ?side1 ?side2 gZ.out).mono ?_); (case side1 => exact sC aa); (case side2 => rw [show aw.length = ah.length from (Kd.R_reads' aa.out).1.symm]; exact (Kd.R_reads' aa.out).2.1); rintro e mR ⟨rfl, hb⟩; refine ⟨_, rfl, ?_⟩; replace ad := xR ad hb; replace ab := xR ab hb; replace aa := xR aa hb; replace ac := xB ac hb; replace ag := xB ag hb; replace ae := xB ae hb; replace af := xB af hb; replace HB := xS HB hb; (try clear hb); (try clear hb2); (try clear hk); (try clear hi)))
           go_ret; exact ⟨vw, zS HB.out⟩
     ·replace dT := Bool.eq_false_iff.mpr dT; subst dT
      have H1 : (some false) = some r := by rw [if_neg (show ¬ (false = true) by decide)] at H; exact H
      clear H; have H := H1; clear H1; obtain rfl := Option.some.inj H
      try go_wp2
      replace ad := Aside0.mk (Kd.R_drew ad.out); replace ab := Aside0.mk (Kd.R_drew ab.out); replace aa := Aside0.mk (Kd.R_drew aa.out); replace ac := Aside0.mk (blk_drew ac.out); replace ag := Aside0.mk (blk_drew ag.out); replace ae := Aside0.mk (blk_drew ae.out); replace af := Aside0.mk (blk_drew af.out); replace HB := Aside0.mk (below_drew1 HB.out); refine start_ (n := 5) (S := fun w' => w'.cell? ⟨aO, 0, none⟩ = some (.int .i64 ax) ∧ w'.cell? ⟨aO, 1, none⟩ = some (.int .i64 ay) ∧ w'.cell? ⟨aO, 2, none⟩ = some (.int .i64 az) ∧ w'.cell? ⟨aO, 3, none⟩ = some (.int .i64 aA) ∧ w'.cell? ⟨aO, 4, none⟩ = some (.slice aV av.length aQ) ∧ w'.cell? ⟨aN, 0, none⟩ = some (.int .i64 a0_0) ∧ w'.cell? ⟨aN, 1, none⟩ = some (.int .i64 a0_1) ∧ w'.cell? ⟨aN, 2, none⟩ = some (.int .i64 a0_2) ∧ w'.cell? ⟨aN, 3, none⟩ = some (.int .i64 a0_3) ∧ w'.cell? ⟨aN, 4, none⟩ = some (.slice A0_4 l0_4.length c0_4)) (ds := []) #[false, false, false, false, false] (by kernel_rfl) rfl rfl ⟨b1 ae 0, b1 ae 1, b1 ae 2, b1 ae 3, b1 ae 4, b1 ac 0, b1 ac 1, b1 ac 2, b1 ac 3, b1 ac 4⟩ (fun hHeld => ?_); generalize wc.drew = mS at ad ab aa ac ag ae af HB hHeld ⊢; refine take_ (i := 0) (N := some 41) (v := ?_) (a' := ?_) #[true, false, false, false, false] rfl rfl (by kernel_rfl) (fun _ _ _ h => h) (Or.inl ⟨by rfl, ?_⟩) hHeld ?_ ?_; rotate_left
      ·rintro w' ⟨s0, s1, s2, s3, s4, s5, s6, s7, s8, s9⟩; go_simp; with_reducible rfl
      rotate_left
      ·simp only [Act.put, q5]; rfl
      refine take_ (i := 1) (N := some 42) (v := ?_) (a' := ?_) #[true, true, false, false, false] rfl rfl (by kernel_rfl) (fun _ _ _ h => h) (Or.inl ⟨by rfl, ?_⟩) hHeld ?_ ?_; rotate_left
      ·rintro w' ⟨s0, s1, s2, s3, s4, s5, s6, s7, s8, s9⟩; go_simp; with_reducible rfl
      rotate_left
      ·simp only [Act.put, q5]; rfl
      refine one_ (i := 2) (N := some 43) #[true, true, true, false, false] rfl rfl (by kernel_rfl) (by decide) (fun K hK => ?_); refine gs_ Try.func6 #[.agg #[.int .i64 a0_0, .int .i64 a0_1, .int .i64 a0_2, .int .i64 a0_3, .slice A0_4 l0_4.length c0_4]] ?_
      with_reducible refine (laws_toGen.calls kj10 a0_0 a0_1 a0_2 a0_3 _ _ l0_4 br bs bt bu bv _ ?side1 ?side2 hN.out).mono ?_
      (case side1 => exact zC (Kd.C_below HR0_4.out HB.out))
      (case side2 => exact HC0_4.out)
      rintro e mT ⟨hX, rfl, ho0, hb⟩; refine ⟨_, rfl, ?_⟩; replace ad := xR ad hb; replace aa := xR aa hb; have aI := rW1 ho0 ab HB; replace ab := xE ab ho0 hb; replace ac := xB ac hb; replace ag := xB ag hb; replace ae := xB ae hb; replace af := xB af hb; replace HB := xS HB hb
      (try clear hb)
      (try clear hb2)
      (try clear hk)
      (try clear hi)
      (try clear ho0)
      obtain ⟨hn, hp, gx⟩ := Kd.R_slice aI.out
      (first | subst gx | (injection gx with f1_ f2_ f3_; have f4_ := f1_.symm; have f5_ := f3_.symm; clear f1_ f2_ f3_; subst f4_; subst f5_))
      refine hK.out _ _ ⟨b1 ae 0, b1 ae 1, b1 ae 2, b1 ae 3, b1 ae 4, b1 ac 0, b1 ac 1, b1 ac 2, b1 ac 3, b1 ac 4⟩ (fun hHeld => ?_); clear hK K; refine nr_ (some 43) ?_
      refine one_ (i := 3) (N := some 44) #[true, true, true, true, false] rfl rfl (by kernel_rfl) (by decide) (fun K hK => ?_); refine gs_ Try.func9 #[.agg #[.int .i64 ax, .int .i64 ay, .int .i64 az, .int .i64 aA, .slice aV av.length aQ], .agg #[.int .i64 br, .int .i64 bs, .int .i64 bt, .int .i64 bu, .slice hn bv.length hp]] ?_
      with_reducible refine (laws_eqGen.calls kj10 ax ay az aA _ _ av br bs bt bu _ _ bv false _ ?side1 ?side2 ?side3 ?side4 hO.out).mono ?_
      (case side1 => exact sC ab)
      (case side2 => exact sL ab)
      (case side3 => exact sC aI)
      (case side4 => exact sL aI)
      rintro e mU ⟨rfl, hb⟩; refine ⟨_, rfl, ?_⟩; replace ad := xR ad hb; replace ab := xR ab hb; replace aa := xR aa hb; replace aI := xR aI hb; replace ac := xB ac hb; replace ag := xB ag hb; replace ae := xB ae hb; replace af := xB af hb; replace HB := xS HB hb
      (try clear hb)
      (try clear hb2)
      (try clear hk)
      (try clear hi)
      refine hK.out _ _ ⟨b1 ae 0, b1 ae 1, b1 ae 2, b1 ae 3, b1 ae 4, b1 ac 0, b1 ac 1, b1 ac 2, b1 ac 3, b1 ac 4⟩ (fun hHeld => ?_); clear hK K; refine nr_ (some 44) ?_
      refine pure_ (i := 4) (N := some 45) (v := ?_) (a' := ?_) #[true, true, true, true, true] rfl rfl (by kernel_rfl) (fun _ _ _ h => h) (Or.inl ⟨by rfl, ?_⟩) ?_ ?_; rotate_left; (intro w'; go_simp; with_reducible rfl); rotate_left; (simp only [Act.put, q5]; rfl)
      refine done_ (by kernel_rfl) ?_
      try go_wp2
      go_ret; exact ⟨vw, zS HB.out⟩

/-- THE ONE PURE STATEMENT of laws_FnExactGenDegen. -/
def laws_FnExactGenDegen.Pure : Prop := ∀ (a0_0 : Int) (a0_1 : Int) (a0_2 : Int) (a0_3 : Int) (l0_4 : List (S65)), (Lit.int .i64 a0_0).wf = true → (Lit.int .i64 a0_1).wf = true → (Lit.int .i64 a0_2).wf = true → (Lit.int .i64 a0_3).wf = true → l0_4.length ≤ 9223372036854775807 → (∀ x ∈ l0_4, ((Lit.int .i64 x.f0).wf = true ∧ (Lit.int .i64 x.f1).wf = true ∧ (Lit.int .i64 x.f2).wf = true ∧ (Lit.int .i64 x.f3).wf = true)) → ∃ k, laws_FnExactGenDegen.f k a0_0 a0_1 a0_2 a0_3 l0_4 = some true

end Go.Proofs.Ytnflbjdmbaaokaa.MFnExactGenDegen
