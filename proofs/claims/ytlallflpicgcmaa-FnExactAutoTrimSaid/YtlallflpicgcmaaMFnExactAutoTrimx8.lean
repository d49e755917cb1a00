-- Written by a program of this session, out of Lean's print of the translation. Not trusted: Lean checks it.
import Derived.Test.YtlallflpicgcmaaMFnExactAutoTrimx0
import Derived.Test.YtlallflpicgcmaaMFnExactAutoTrimx1
import Derived.Test.YtlallflpicgcmaaMFnExactAutoTrimx3
import Derived.Test.YtlallflpicgcmaaMFnExactAutoTrimx7
namespace Go.Proofs.Ytlallflpicgcmaa.MFnExactAutoTrim
open Go.RowKit Go.Proofs.YtlallflpicgcmaaW.PrintWords Go.Proofs.YtlallflpicgcmaaW.PrintLast Go.Proofs.YtlallflpicgcmaaW.PrintMore
attribute [local go_sem] max2_int min2_int max_two min_two max_three min_three max_four min_four   -- for this text's walks alone
set_option linter.unusedVariables false
set_option linter.unusedSimpArgs false


/-! ### laws_FnExactAutoTrim: function 12 -/
mutual
def laws_FnExactAutoTrim.j0 : Nat → List Int → List Int → Bool → Int → Int → Int → List (S115) → Int → Int → Int → List (S68) → Int → Int → Int → List (S68) → Int → Int → Int → List (S68) → Option (Bool)
 | 0, _, _, _, _, _, _, _, _, _, _, _, _, _, _, _, _, _, _, _ => none
 | k + 1, x5, x8, x41, x294000, x294001, x294002, x294003, x311000, x311001, x311002, x311003, x318000, x318001, x318002, x318003, x328000, x328001, x328002, x328003 => if x41 = true then (some false) else ((laws_toAuto.f k x294000 x294001 x294002 x294003).bind fun bt330 => ((laws_eqAuto.f k x318000 x318001 x318002 x318003 bt330.1 bt330.2.1 bt330.2.2.1 bt330.2.2.2).bind fun t336 => (if t336 = true then ((laws_markAuto.f k x318000 x318001 x318002 x318003 1).bind fun bt337 => (if bt337.1 < 0 then (laws_FnExactAutoTrim.j1 k x5 x8 true x294000 x294001 x294002 x294003 x311000 x311001 x311002 x311003 x328000 x328001 x328002 x328003) else ((laws_eqAuto.f k x328000 x328001 x328002 x328003 x311000 x311001 x311002 x311003).bind fun t339 => (if t339 = true then ((laws_eqIntS.f k x8 x5).bind fun t340 => (laws_FnExactAutoTrim.j1 k x5 x8 (!t340) x294000 x294001 x294002 x294003 x311000 x311001 x311002 x311003 x328000 x328001 x328002 x328003)) else (laws_FnExactAutoTrim.j1 k x5 x8 true x294000 x294001 x294002 x294003 x311000 x311001 x311002 x311003 x328000 x328001 x328002 x328003))))) else (some false))))
def laws_FnExactAutoTrim.j1 : Nat → List Int → List Int → Bool → Int → Int → Int → List (S115) → Int → Int → Int → List (S68) → Int → Int → Int → List (S68) → Option (Bool)
 | 0, _, _, _, _, _, _, _, _, _, _, _, _, _, _, _ => none
 | k + 1, x5, x8, x63, x294000, x294001, x294002, x294003, x311000, x311001, x311002, x311003, x328000, x328001, x328002, x328003 => if x63 = true then (some false) else ((laws_markAuto.f k x328000 x328001 x328002 x328003 1).bind fun bt341 => ((laws_markIntS.f k x8 bt341.1).bind fun bt343 => ((laws_heldAuto.f k x328000 x328001 x328002 bt341.2 1).bind fun t345 => (if t345 < 0 then (some false) else ((laws_heldIntS.f k bt343.2 t345).bind fun t346 => (if t346 < 0 then (some false) else (if t346 = bt343.1 then ((laws_toAuto.f k x294000 x294001 x294002 x294003).bind fun bt347 => ((impl_AutoTrim.f k bt347.1 bt347.2.1 bt347.2.2.1 bt347.2.2.2).bind fun bt353 => ((laws_eqAuto.f k bt353.1 bt353.2.1 bt353.2.2.1 bt353.2.2.2.1 x311000 x311001 x311002 x311003).bind fun t363 => (if t363 = true then ((laws_eqIntS.f k bt353.2.2.2.2 x5).bind fun t364 => (laws_FnExactAutoTrim.j2 k bt343.2 bt343.1 (!t364) x328000 x328001 x328002 bt341.2)) else (laws_FnExactAutoTrim.j2 k bt343.2 bt343.1 true x328000 x328001 x328002 bt341.2))))) else (some false))))))))
def laws_FnExactAutoTrim.j2 : Nat → List Int → Int → Bool → Int → Int → Int → List (S68) → Option (Bool)
 | 0, _, _, _, _, _, _, _ => none
 | k + 1, x8, x10, x98, x328000, x328001, x328002, x328003 => if x98 = true then (some false) else ((laws_heldAuto.f k x328000 x328001 x328002 x328003 1).bind fun t365 => (if t365 < 0 then (some false) else ((laws_heldIntS.f k x8 t365).bind fun t366 => (if t366 < 0 then (some false) else (if t366 = x10 then (some true) else (some false))))))
end
def laws_FnExactAutoTrim.f (k : Nat) (a0_0 : Int) (a0_1 : Int) (a0_2 : Int) (l0_3 : List (S115)) : Option (Bool) := (laws_szAuto.f a0_0 a0_1 a0_2 l0_3 1048576).bind fun t294 => (if t294 < 0 then (some true) else ((laws_toAuto.f k a0_0 a0_1 a0_2 l0_3).bind fun bt295 => ((spec_AutoTrim.f k bt295.1 bt295.2.1 bt295.2.2.1 bt295.2.2.2).bind fun bt301 => ((laws_toAuto.f k a0_0 a0_1 a0_2 l0_3).bind fun bt311 => ((impl_AutoTrim.f k bt311.1 bt311.2.1 bt311.2.2.1 bt311.2.2.2).bind fun bt318 => ((laws_eqAuto.f k bt318.1 bt318.2.1 bt318.2.2.1 bt318.2.2.2.1 bt301.1 bt301.2.1 bt301.2.2.1 bt301.2.2.2.1).bind fun t328 => (if t328 = true then ((laws_eqIntS.f k bt318.2.2.2.2 bt301.2.2.2.2).bind fun t329 => (laws_FnExactAutoTrim.j0 k bt301.2.2.2.2 bt318.2.2.2.2 (!t329) a0_0 a0_1 a0_2 l0_3 bt301.1 bt301.2.1 bt301.2.2.1 bt301.2.2.2.1 bt311.1 bt311.2.1 bt311.2.2.1 bt311.2.2.2 bt318.1 bt318.2.1 bt318.2.2.1 bt318.2.2.2.1)) else (laws_FnExactAutoTrim.j0 k bt301.2.2.2.2 bt318.2.2.2.2 true a0_0 a0_1 a0_2 l0_3 bt301.1 bt301.2.1 bt301.2.2.1 bt301.2.2.2.1 bt311.1 bt311.2.1 bt311.2.2.1 bt311.2.2.2 bt318.1 bt318.2.1 bt318.2.2.1 bt318.2.2.2.1))))))))
theorem laws_FnExactAutoTrim.mono_l : ∀ k, (∀ y0 y1 y2 y3 y4 y5 y6 y7 y8 y9 y10 y11 y12 y13 y14 y15 y16 y17 y18, LeO (laws_FnExactAutoTrim.j0 k y0 y1 y2 y3 y4 y5 y6 y7 y8 y9 y10 y11 y12 y13 y14 y15 y16 y17 y18) (laws_FnExactAutoTrim.j0 (k + 1) y0 y1 y2 y3 y4 y5 y6 y7 y8 y9 y10 y11 y12 y13 y14 y15 y16 y17 y18)) ∧ (∀ y0 y1 y2 y3 y4 y5 y6 y7 y8 y9 y10 y11 y12 y13 y14, LeO (laws_FnExactAutoTrim.j1 k y0 y1 y2 y3 y4 y5 y6 y7 y8 y9 y10 y11 y12 y13 y14) (laws_FnExactAutoTrim.j1 (k + 1) y0 y1 y2 y3 y4 y5 y6 y7 y8 y9 y10 y11 y12 y13 y14)) ∧ (∀ y0 y1 y2 y3 y4 y5 y6, LeO (laws_FnExactAutoTrim.j2 k y0 y1 y2 y3 y4 y5 y6) (laws_FnExactAutoTrim.j2 (k + 1) y0 y1 y2 y3 y4 y5 y6))
 | 0 => ⟨fun _ _ _ _ _ _ _ _ _ _ _ _ _ _ _ _ _ _ _ r h => by simp [laws_FnExactAutoTrim.j0] at h, fun _ _ _ _ _ _ _ _ _ _ _ _ _ _ _ r h => by simp [laws_FnExactAutoTrim.j1] at h, fun _ _ _ _ _ _ _ r h => by simp [laws_FnExactAutoTrim.j2] at h⟩
 | k + 1 => by
  obtain ⟨ih0, ih1, ih2⟩ := laws_FnExactAutoTrim.mono_l k
  refine ⟨?_, ?_, ?_⟩
  ·intro y0 y1 y2 y3 y4 y5 y6 y7 y8 y9 y10 y11 y12 y13 y14 y15 y16 y17 y18
   unfold laws_FnExactAutoTrim.j0
   repeat' first
   | (with_reducible exact ih0 _ _ _ _ _ _ _ _ _ _ _ _ _ _ _ _ _ _ _)
   | (with_reducible exact ih1 _ _ _ _ _ _ _ _ _ _ _ _ _ _ _)
   | (with_reducible exact ih2 _ _ _ _ _ _ _)
   | (with_reducible exact impl_AutoTrim.mono _ _ _ _ _)
   | (with_reducible exact laws_eqAuto.mono _ _ _ _ _ _ _ _ _)
   | (with_reducible exact laws_eqIntS.mono _ _ _)
   | (with_reducible exact laws_heldAuto.mono _ _ _ _ _ _)
   | (with_reducible exact laws_heldIntS.mono _ _ _)
   | (with_reducible exact laws_markAuto.mono _ _ _ _ _ _)
   | (with_reducible exact laws_markIntS.mono _ _ _)
   | (with_reducible exact laws_toAuto.mono _ _ _ _ _)
   | (with_reducible exact spec_AutoTrim.mono _ _ _ _ _)
   | (with_reducible exact LeO.refl _)
   | (with_reducible exact LeO.none _)
   | (with_reducible refine LeO.ite ?_ ?_)
   | (with_reducible refine LeO.bind ?_ (fun _ => ?_))
   | exact ih0 _ _ _ _ _ _ _ _ _ _ _ _ _ _ _ _ _ _ _
   | exact ih1 _ _ _ _ _ _ _ _ _ _ _ _ _ _ _
   | exact ih2 _ _ _ _ _ _ _
   | exact impl_AutoTrim.mono _ _ _ _ _
   | exact laws_eqAuto.mono _ _ _ _ _ _ _ _ _
   | exact laws_eqIntS.mono _ _ _
   | exact laws_heldAuto.mono _ _ _ _ _ _
   | exact laws_heldIntS.mono _ _ _
   | exact laws_markAuto.mono _ _ _ _ _ _
   | exact laws_markIntS.mono _ _ _
   | exact laws_toAuto.mono _ _ _ _ _
   | exact spec_AutoTrim.mono _ _ _ _ _
   | exact LeO.none _
   | refine LeO.ite ?_ ?_
   | refine LeO.bind ?_ (fun _ => ?_)
  ·intro y0 y1 y2 y3 y4 y5 y6 y7 y8 y9 y10 y11 y12 y13 y14
   unfold laws_FnExactAutoTrim.j1
   repeat' first
   | (with_reducible exact ih0 _ _ _ _ _ _ _ _ _ _ _ _ _ _ _ _ _ _ _)
   | (with_reducible exact ih1 _ _ _ _ _ _ _ _ _ _ _ _ _ _ _)
   | (with_reducible exact ih2 _ _ _ _ _ _ _)
   | (with_reducible exact impl_AutoTrim.mono _ _ _ _ _)
   | (with_reducible exact laws_eqAuto.mono _ _ _ _ _ _ _ _ _)
   | (with_reducible exact laws_eqIntS.mono _ _ _)
   | (with_reducible exact laws_heldAuto.mono _ _ _ _ _ _)
   | (with_reducible exact laws_heldIntS.mono _ _ _)
   | (with_reducible exact laws_markAuto.mono _ _ _ _ _ _)
   | (with_reducible exact laws_markIntS.mono _ _ _)
   | (with_reducible exact laws_toAuto.mono _ _ _ _ _)
   | (with_reducible exact spec_AutoTrim.mono _ _ _ _ _)
   | (with_reducible exact LeO.refl _)
   | (with_reducible exact LeO.none _)
   | (with_reducible refine LeO.ite ?_ ?_)
   | (with_reducible refine LeO.bind ?_ (fun _ => ?_))
   | exact ih0 _ _ _ _ _ _ _ _ _ _ _ _ _ _ _ _ _ _ _
   | exact ih1 _ _ _ _ _ _ _ _ _ _ _ _ _ _ _
   | exact ih2 _ _ _ _ _ _ _
   | exact impl_AutoTrim.mono _ _ _ _ _
   | exact laws_eqAuto.mono _ _ _ _ _ _ _ _ _
   | exact laws_eqIntS.mono _ _ _
   | exact laws_heldAuto.mono _ _ _ _ _ _
   | exact laws_heldIntS.mono _ _ _
   | exact laws_markAuto.mono _ _ _ _ _ _
   | exact laws_markIntS.mono _ _ _
   | exact laws_toAuto.mono _ _ _ _ _
   | exact spec_AutoTrim.mono _ _ _ _ _
   | exact LeO.none _
   | refine LeO.ite ?_ ?_
   | refine LeO.bind ?_ (fun _ => ?_)
  ·intro y0 y1 y2 y3 y4 y5 y6
   unfold laws_FnExactAutoTrim.j2
   repeat' first
   | (with_reducible exact ih0 _ _ _ _ _ _ _ _ _ _ _ _ _ _ _ _ _ _ _)
   | (with_reducible exact ih1 _ _ _ _ _ _ _ _ _ _ _ _ _ _ _)
   | (with_reducible exact ih2 _ _ _ _ _ _ _)
   | (with_reducible exact impl_AutoTrim.mono _ _ _ _ _)
   | (with_reducible exact laws_eqAuto.mono _ _ _ _ _ _ _ _ _)
   | (with_reducible exact laws_eqIntS.mono _ _ _)
   | (with_reducible exact laws_heldAuto.mono _ _ _ _ _ _)
   | (with_reducible exact laws_heldIntS.mono _ _ _)
   | (with_reducible exact laws_markAuto.mono _ _ _ _ _ _)
   | (with_reducible exact laws_markIntS.mono _ _ _)
   | (with_reducible exact laws_toAuto.mono _ _ _ _ _)
   | (with_reducible exact spec_AutoTrim.mono _ _ _ _ _)
   | (with_reducible exact LeO.refl _)
   | (with_reducible exact LeO.none _)
   | (with_reducible refine LeO.ite ?_ ?_)
   | (with_reducible refine LeO.bind ?_ (fun _ => ?_))
   | exact ih0 _ _ _ _ _ _ _ _ _ _ _ _ _ _ _ _ _ _ _
   | exact ih1 _ _ _ _ _ _ _ _ _ _ _ _ _ _ _
   | exact ih2 _ _ _ _ _ _ _
   | exact impl_AutoTrim.mono _ _ _ _ _
   | exact laws_eqAuto.mono _ _ _ _ _ _ _ _ _
   | exact laws_eqIntS.mono _ _ _
   | exact laws_heldAuto.mono _ _ _ _ _ _
   | exact laws_heldIntS.mono _ _ _
   | exact laws_markAuto.mono _ _ _ _ _ _
   | exact laws_markIntS.mono _ _ _
   | exact laws_toAuto.mono _ _ _ _ _
   | exact spec_AutoTrim.mono _ _ _ _ _
   | exact LeO.none _
   | refine LeO.ite ?_ ?_
   | refine LeO.bind ?_ (fun _ => ?_)
theorem laws_FnExactAutoTrim.mono : ∀ a0 a1 a2 a3 k, LeO (laws_FnExactAutoTrim.f k a0 a1 a2 a3) (laws_FnExactAutoTrim.f (k + 1) a0 a1 a2 a3) := by
 intro a0 a1 a2 a3 k
 obtain ⟨ih0, ih1, ih2⟩ := laws_FnExactAutoTrim.mono_l k
 unfold laws_FnExactAutoTrim.f
 repeat' first
   | (with_reducible exact ih0 _ _ _ _ _ _ _ _ _ _ _ _ _ _ _ _ _ _ _)
   | (with_reducible exact ih1 _ _ _ _ _ _ _ _ _ _ _ _ _ _ _)
   | (with_reducible exact ih2 _ _ _ _ _ _ _)
   | (with_reducible exact impl_AutoTrim.mono _ _ _ _ _)
   | (with_reducible exact laws_eqAuto.mono _ _ _ _ _ _ _ _ _)
   | (with_reducible exact laws_eqIntS.mono _ _ _)
   | (with_reducible exact laws_heldAuto.mono _ _ _ _ _ _)
   | (with_reducible exact laws_heldIntS.mono _ _ _)
   | (with_reducible exact laws_markAuto.mono _ _ _ _ _ _)
   | (with_reducible exact laws_markIntS.mono _ _ _)
   | (with_reducible exact laws_toAuto.mono _ _ _ _ _)
   | (with_reducible exact spec_AutoTrim.mono _ _ _ _ _)
   | (with_reducible exact LeO.refl _)
   | (with_reducible exact LeO.none _)
   | (with_reducible refine LeO.ite ?_ ?_)
   | (with_reducible refine LeO.bind ?_ (fun _ => ?_))
   | exact ih0 _ _ _ _ _ _ _ _ _ _ _ _ _ _ _ _ _ _ _
   | exact ih1 _ _ _ _ _ _ _ _ _ _ _ _ _ _ _
   | exact ih2 _ _ _ _ _ _ _
   | exact impl_AutoTrim.mono _ _ _ _ _
   | exact laws_eqAuto.mono _ _ _ _ _ _ _ _ _
   | exact laws_eqIntS.mono _ _ _
   | exact laws_heldAuto.mono _ _ _ _ _ _
   | exact laws_heldIntS.mono _ _ _
   | exact laws_markAuto.mono _ _ _ _ _ _
   | exact laws_markIntS.mono _ _ _
   | exact laws_toAuto.mono _ _ _ _ _
   | exact spec_AutoTrim.mono _ _ _ _ _
   | exact LeO.none _
   | refine LeO.ite ?_ ?_
   | refine LeO.bind ?_ (fun _ => ?_)
open Go.Proofs.Ytlallflpicgcmaa.Short2 in
set_option maxHeartbeats 8000000 in
set_option maxRecDepth 100000 in
theorem laws_FnExactAutoTrim.calls (k : Nat) (a0_0 : Int) (a0_1 : Int) (a0_2 : Int) (A0_3 : Option Addr) (c0_3 : Nat) (l0_3 : List (S115)) (r : Bool) (w : World) (hr0_3 : Kd.C k115 w A0_3 l0_3.length l0_3) (hc0_3 : l0_3.length ≤ c0_3) (h : laws_FnExactAutoTrim.f k a0_0 a0_1 a0_2 l0_3 = some r) :
  Calls Try.prog 12 #[.agg #[.int .i64 a0_0, .int .i64 a0_1, .int .i64 a0_2, .slice A0_3 l0_3.length c0_3]] w fun e w' => e = .returned (.bool r) ∧ Below w.heap.size w w' := by
 have hu31 := Try.underlying31; have hu24 := Try.underlying24; have HR0_3 := Aside0.mk hr0_3; have HC0_3 := Aside0.mk hc0_3; clear hr0_3 hc0_3; have HB := Aside0.mk (Below.refl w.heap.size w); have H : ((laws_szAuto.f a0_0 a0_1 a0_2 l0_3 1048576).bind fun t294 => (if t294 < 0 then (some true) else ((laws_toAuto.f k a0_0 a0_1 a0_2 l0_3).bind fun bt295 => ((spec_AutoTrim.f k bt295.1 bt295.2.1 bt295.2.2.1 bt295.2.2.2).bind fun bt301 => ((laws_toAuto.f k a0_0 a0_1 a0_2 l0_3).bind fun bt311 => ((impl_AutoTrim.f k bt311.1 bt311.2.1 bt311.2.2.1 bt311.2.2.2).bind fun bt318 => ((laws_eqAuto.f k bt318.1 bt318.2.1 bt318.2.2.1 bt318.2.2.2.1 bt301.1 bt301.2.1 bt301.2.2.1 bt301.2.2.2.1).bind fun t328 => (if t328 = true then ((laws_eqIntS.f k bt318.2.2.2.2 bt301.2.2.2.2).bind fun t329 => (laws_FnExactAutoTrim.j0 k bt301.2.2.2.2 bt318.2.2.2.2 (!t329) a0_0 a0_1 a0_2 l0_3 bt301.1 bt301.2.1 bt301.2.2.1 bt301.2.2.2.1 bt311.1 bt311.2.1 bt311.2.2.1 bt311.2.2.2 bt318.1 bt318.2.1 bt318.2.2.1 bt318.2.2.2.1)) else (laws_FnExactAutoTrim.j0 k bt301.2.2.2.2 bt318.2.2.2.2 true a0_0 a0_1 a0_2 l0_3 bt301.1 bt301.2.1 bt301.2.2.1 bt301.2.2.2.1 bt311.1 bt311.2.1 bt311.2.2.1 bt311.2.2.2 bt318.1 bt318.2.1 bt318.2.2.1 bt318.2.2.2.1))))))))) = some r := h; clear h; replace H := Option.bind_eq_some_iff.mp H; obtain ⟨t294, A20, H⟩ := H; replace H : (if t294 < 0 then (some true) else ((laws_toAuto.f k a0_0 a0_1 a0_2 l0_3).bind fun bt295 => ((spec_AutoTrim.f k bt295.1 bt295.2.1 bt295.2.2.1 bt295.2.2.2).bind fun bt301 => ((laws_toAuto.f k a0_0 a0_1 a0_2 l0_3).bind fun bt311 => ((impl_AutoTrim.f k bt311.1 bt311.2.1 bt311.2.2.1 bt311.2.2.2).bind fun bt318 => ((laws_eqAuto.f k bt318.1 bt318.2.1 bt318.2.2.1 bt318.2.2.2.1 bt301.1 bt301.2.1 bt301.2.2.1 bt301.2.2.2.1).bind fun t328 => (if t328 = true then ((laws_eqIntS.f k bt318.2.2.2.2 bt301.2.2.2.2).bind fun t329 => (laws_FnExactAutoTrim.j0 k bt301.2.2.2.2 bt318.2.2.2.2 (!t329) a0_0 a0_1 a0_2 l0_3 bt301.1 bt301.2.1 bt301.2.2.1 bt301.2.2.2.1 bt311.1 bt311.2.1 bt311.2.2.1 bt311.2.2.2 bt318.1 bt318.2.1 bt318.2.2.1 bt318.2.2.2.1)) else (laws_FnExactAutoTrim.j0 k bt301.2.2.2.2 bt318.2.2.2.2 true a0_0 a0_1 a0_2 l0_3 bt301.1 bt301.2.1 bt301.2.2.1 bt301.2.2.2.1 bt311.1 bt311.2.1 bt311.2.2.1 bt311.2.2.2 bt318.1 bt318.2.1 bt318.2.2.1 bt318.2.2.2.1)))))))) = some r := H; have A2 := Aside0.mk A20; clear A20
 by_cases c3 : t294 < 0
 ·rw [if_pos c3] at H; have c3b0 : decide (t294 < 0) = true := decide_eq_true c3; clear c3; obtain rfl := Option.some.inj H
  go_enter Try.func12, Try.ntmps12
  go_wp2_with (first | ((with_reducible refine gate_dst (N := 1) rfl ?_); refine box_event ?hg (N := 1) ?hd (cs := #[.int .i64 a0_0, .int .i64 a0_1, .int .i64 a0_2, .slice A0_3 l0_3.length c0_3]) (t := 31) ?hr ?_; (case hd => rfl); (case hg => rfl); (case hr => first | (go_simp; done) | (go_simp; rfl)); intro gb293 hg w4 hbox hb; have BK293 := Aside0.mk (hbox); have GW293 := xG HB hg; have GE293 := xG HB hg; replace HB := xS HB hb; clear hb hbox hg; have hcz5_0 : w4.cell? ⟨gb293, 0, none⟩ = some (.int .i64 a0_0) := b1 BK293 0; have hcz5_1 : w4.cell? ⟨gb293, 1, none⟩ = some (.int .i64 a0_1) := b1 BK293 1; have hcz5_2 : w4.cell? ⟨gb293, 2, none⟩ = some (.int .i64 a0_2) := b1 BK293 2; have hcz5_3 : w4.cell? ⟨gb293, 3, none⟩ = some (.slice A0_3 l0_3.length c0_3) := b1 BK293 3; have hfz5_0 := blk_frozen BK293.out 0; have hfz5_1 := blk_frozen BK293.out 1; have hfz5_2 := blk_frozen BK293.out 2; have hfz5_3 := blk_frozen BK293.out 3) | ((with_reducible refine gate_callee (f := 19) rfl ?_); refine goesL_ (some 16) rfl rfl Try.func19 (by kernel_rfl) rfl #[.agg #[.int .i64 a0_0, .int .i64 a0_1, .int .i64 a0_2, .slice A0_3 l0_3.length c0_3], .int .i64 1048576] rfl (by (try simp only [m3]); first | done | rfl | (simp only [d2]; rfl)) ?_; (with_reducible refine (laws_szAuto.calls a0_0 a0_1 a0_2 _ _ l0_3 1048576 t294 _ ?side1 ?side2 A2.out).mono ?_); (case side1 => exact zC (Kd.C_below HR0_3.out HB.out)); (case side2 => exact HC0_3.out); rintro e w6 ⟨rfl, hb⟩; refine ⟨_, rfl, ?_⟩; replace BK293 := xB BK293 hb; replace HB := xS HB hb; (try clear hb); (try clear hb2); (try clear hk); (try clear hi)))
  go_ret; exact ⟨by first | rfl | (simp [errW_none, errW_some] <;> rfl) | (simp [*, errW_none, errW_some] <;> rfl), by repeat (first | (with_reducible first | exact HB.out | apply below_alloc | apply pw_below_drewN | apply below_drew1 | refine below_set ?_ GE293.out) | exact HB.out)⟩
 ·rw [if_neg c3] at H; have c3b0 : decide (t294 < 0) = false := decide_eq_false c3; clear c3; replace H := Option.bind_eq_some_iff.mp H; obtain ⟨⟨t295, t296, t297, t298⟩, A70, H⟩ := H; replace H : ((spec_AutoTrim.f k t295 t296 t297 t298).bind fun bt301 => ((laws_toAuto.f k a0_0 a0_1 a0_2 l0_3).bind fun bt311 => ((impl_AutoTrim.f k bt311.1 bt311.2.1 bt311.2.2.1 bt311.2.2.2).bind fun bt318 => ((laws_eqAuto.f k bt318.1 bt318.2.1 bt318.2.2.1 bt318.2.2.2.1 bt301.1 bt301.2.1 bt301.2.2.1 bt301.2.2.2.1).bind fun t328 => (if t328 = true then ((laws_eqIntS.f k bt318.2.2.2.2 bt301.2.2.2.2).bind fun t329 => (laws_FnExactAutoTrim.j0 k bt301.2.2.2.2 bt318.2.2.2.2 (!t329) a0_0 a0_1 a0_2 l0_3 bt301.1 bt301.2.1 bt301.2.2.1 bt301.2.2.2.1 bt311.1 bt311.2.1 bt311.2.2.1 bt311.2.2.2 bt318.1 bt318.2.1 bt318.2.2.1 bt318.2.2.2.1)) else (laws_FnExactAutoTrim.j0 k bt301.2.2.2.2 bt318.2.2.2.2 true a0_0 a0_1 a0_2 l0_3 bt301.1 bt301.2.1 bt301.2.2.1 bt301.2.2.2.1 bt311.1 bt311.2.1 bt311.2.2.1 bt311.2.2.2 bt318.1 bt318.2.1 bt318.2.2.1 bt318.2.2.2.1)))))) = some r := H; have A7 := Aside0.mk A70; clear A70; replace H := Option.bind_eq_some_iff.mp H; obtain ⟨⟨t301, t302, t303, t304, t307⟩, A80, H⟩ := H; replace H : ((laws_toAuto.f k a0_0 a0_1 a0_2 l0_3).bind fun bt311 => ((impl_AutoTrim.f k bt311.1 bt311.2.1 bt311.2.2.1 bt311.2.2.2).bind fun bt318 => ((laws_eqAuto.f k bt318.1 bt318.2.1 bt318.2.2.1 bt318.2.2.2.1 t301 t302 t303 t304).bind fun t328 => (if t328 = true then ((laws_eqIntS.f k bt318.2.2.2.2 t307).bind fun t329 => (laws_FnExactAutoTrim.j0 k t307 bt318.2.2.2.2 (!t329) a0_0 a0_1 a0_2 l0_3 t301 t302 t303 t304 bt311.1 bt311.2.1 bt311.2.2.1 bt311.2.2.2 bt318.1 bt318.2.1 bt318.2.2.1 bt318.2.2.2.1)) else (laws_FnExactAutoTrim.j0 k t307 bt318.2.2.2.2 true a0_0 a0_1 a0_2 l0_3 t301 t302 t303 t304 bt311.1 bt311.2.1 bt311.2.2.1 bt311.2.2.2 bt318.1 bt318.2.1 bt318.2.2.1 bt318.2.2.2.1))))) = some r := H; have A8 := Aside0.mk A80; clear A80; replace H := Option.bind_eq_some_iff.mp H; obtain ⟨⟨t311, t312, t313, t314⟩, A90, H⟩ := H; replace H : ((impl_AutoTrim.f k t311 t312 t313 t314).bind fun bt318 => ((laws_eqAuto.f k bt318.1 bt318.2.1 bt318.2.2.1 bt318.2.2.2.1 t301 t302 t303 t304).bind fun t328 => (if t328 = true then ((laws_eqIntS.f k bt318.2.2.2.2 t307).bind fun t329 => (laws_FnExactAutoTrim.j0 k t307 bt318.2.2.2.2 (!t329) a0_0 a0_1 a0_2 l0_3 t301 t302 t303 t304 t311 t312 t313 t314 bt318.1 bt318.2.1 bt318.2.2.1 bt318.2.2.2.1)) else (laws_FnExactAutoTrim.j0 k t307 bt318.2.2.2.2 true a0_0 a0_1 a0_2 l0_3 t301 t302 t303 t304 t311 t312 t313 t314 bt318.1 bt318.2.1 bt318.2.2.1 bt318.2.2.2.1)))) = some r := H; have A9 := Aside0.mk A90; clear A90; replace H := Option.bind_eq_some_iff.mp H; obtain ⟨⟨t318, t319, t320, t321, t324⟩, A100, H⟩ := H
  replace H : ((laws_eqAuto.f k t318 t319 t320 t321 t301 t302 t303 t304).bind fun t328 => (if t328 = true then ((laws_eqIntS.f k t324 t307).bind fun t329 => (laws_FnExactAutoTrim.j0 k t307 t324 (!t329) a0_0 a0_1 a0_2 l0_3 t301 t302 t303 t304 t311 t312 t313 t314 t318 t319 t320 t321)) else (laws_FnExactAutoTrim.j0 k t307 t324 true a0_0 a0_1 a0_2 l0_3 t301 t302 t303 t304 t311 t312 t313 t314 t318 t319 t320 t321))) = some r := H; have A10 := Aside0.mk A100; clear A100; have HC11 := Aside0.mk H; clear H
  go_enter Try.func12, Try.ntmps12
  go_upto_region 8 with (first | ((with_reducible refine gate_dst (N := 1) rfl ?_); refine box_event ?hg (N := 1) ?hd (cs := #[.int .i64 a0_0, .int .i64 a0_1, .int .i64 a0_2, .slice A0_3 l0_3.length c0_3]) (t := 31) ?hr ?_; (case hd => rfl); (case hg => rfl); (case hr => first | (go_simp; done) | (go_simp; rfl)); intro gb293 hg w12 hbox hb; have BK293 := Aside0.mk (hbox); have GW293 := xG HB hg; have GE293 := xG HB hg; replace HB := xS HB hb; clear hb hbox hg; have hcz13_0 : w12.cell? ⟨gb293, 0, none⟩ = some (.int .i64 a0_0) := b1 BK293 0; have hcz13_1 : w12.cell? ⟨gb293, 1, none⟩ = some (.int .i64 a0_1) := b1 BK293 1; have hcz13_2 : w12.cell? ⟨gb293, 2, none⟩ = some (.int .i64 a0_2) := b1 BK293 2; have hcz13_3 : w12.cell? ⟨gb293, 3, none⟩ = some (.slice A0_3 l0_3.length c0_3) := b1 BK293 3; have hfz13_0 := blk_frozen BK293.out 0; have hfz13_1 := blk_frozen BK293.out 1; have hfz13_2 := blk_frozen BK293.out 2; have hfz13_3 := blk_frozen BK293.out 3) | ((with_reducible refine gate_callee (f := 19) rfl ?_); refine goesL_ (some 16) rfl rfl Try.func19 (by kernel_rfl) rfl #[.agg #[.int .i64 a0_0, .int .i64 a0_1, .int .i64 a0_2, .slice A0_3 l0_3.length c0_3], .int .i64 1048576] rfl (by (try simp only [m3]); first | done | rfl | (simp only [d2]; rfl)) ?_; (with_reducible refine (laws_szAuto.calls a0_0 a0_1 a0_2 _ _ l0_3 1048576 t294 _ ?side1 ?side2 A2.out).mono ?_); (case side1 => exact zC (Kd.C_below HR0_3.out HB.out)); (case side2 => exact HC0_3.out); rintro e w14 ⟨rfl, hb⟩; refine ⟨_, rfl, ?_⟩; replace BK293 := xB BK293 hb; replace HB := xS HB hb; (try clear hb); (try clear hb2); (try clear hk); (try clear hi); have hcz15_0 : w14.cell? ⟨gb293, 0, none⟩ = some (.int .i64 a0_0) := b1 BK293 0; have hcz15_1 : w14.cell? ⟨gb293, 1, none⟩ = some (.int .i64 a0_1) := b1 BK293 1; have hcz15_2 : w14.cell? ⟨gb293, 2, none⟩ = some (.int .i64 a0_2) := b1 BK293 2; have hcz15_3 : w14.cell? ⟨gb293, 3, none⟩ = some (.slice A0_3 l0_3.length c0_3) := b1 BK293 3; have hfz15_0 := blk_frozen BK293.out 0; have hfz15_1 := blk_frozen BK293.out 1; have hfz15_2 := blk_frozen BK293.out 2; have hfz15_3 := blk_frozen BK293.out 3) | ((with_reducible refine gate_callee (f := 21) rfl ?_); refine goesL_ (some 21) rfl rfl Try.func21 (by kernel_rfl) rfl #[.agg #[.int .i64 a0_0, .int .i64 a0_1, .int .i64 a0_2, .slice A0_3 l0_3.length c0_3]] rfl (by (try simp only [m3]); first | done | rfl | (simp only [d2]; rfl)) ?_; (with_reducible refine (laws_toAuto.calls k a0_0 a0_1 a0_2 _ _ l0_3 t295 t296 t297 t298 _ ?side1 ?side2 A7.out).mono ?_); (case side1 => exact zC (Kd.C_below HR0_3.out HB.out)); (case side2 => exact HC0_3.out); rintro e w16 ⟨v299, rfl, ho0, hb⟩; refine ⟨_, rfl, ?_⟩; have HO300 := Aside0.mk (Kd.R_lower ho0 (below_size (zS HB.out))); replace BK293 := xB BK293 hb; replace HB := xS HB hb; (try clear hb); (try clear hb2); (try clear hk); (try clear hi); (try clear ho0); obtain ⟨Ao17, co17, eo17⟩ := Kd.R_slice HO300.out; subst eo17) | ((with_reducible refine gate_callee (f := 46) rfl ?_); refine goesL_ (some 22) rfl rfl Try.func46 (by kernel_rfl) rfl #[.agg #[.int .i64 t295, .int .i64 t296, .int .i64 t297, .slice Ao17 t298.length co17]] rfl (by (try simp only [m3]); first | done | rfl | (simp only [d2]; rfl)) ?_; (with_reducible refine (spec_AutoTrim.calls k t295 t296 t297 _ _ t298 t301 t302 t303 t304 t307 _ ?side1 ?side2 A8.out).mono ?_); (case side1 => exact zC (Kd.R_reads' HO300.out).2.2); (case side2 => exact (Kd.R_reads' HO300.out).2.1); rintro e w18 ⟨v305, v308, rfl, ho0, ho1, hb⟩; refine ⟨_, rfl, ?_⟩; have HO306 := Aside0.mk (Kd.R_lower (Kd.R_new' ho0 (Kd.R_lt (zR HO300.out))) (below_size (zS HB.out))); replace HO300 := xE HO300 ho0 hb; have HO309 := Aside0.mk (Kd.R_lower ho1 (below_size (zS HB.out))); replace BK293 := xB BK293 hb; replace HB := xS HB hb; (try clear hb); (try clear hb2); (try clear hk); (try clear hi); (try clear ho0); (try clear ho1)) | ((with_reducible refine gate_dst (N := 4) rfl ?_); refine box_event ?hg (N := 4) ?hd (cs := #[.int .i64 0, .int .i64 0, .int .i64 0, .slice none 0 0]) (t := 24) ?hr ?_; (case hd => rfl); (case hg => rfl); (case hr => first | (go_simp; done) | (go_simp; rfl)); intro gb310 hg w19 hbox hb; replace HO300 := xR HO300 hb; replace HO306 := xR HO306 hb; replace HO309 := xR HO309 hb; have BK310 := Aside0.mk (hbox); have GW310 := xG HB hg; have GE310 := xG HB hg; replace HB := xS HB hb; have NB293_310 := xN BK293 hg; have NB310_293 := xM BK293 hg; replace BK293 := xB BK293 hb; clear hb hbox hg; have hnb20 := NB310_293.out; have hnc20 := NB293_310.out; have hcz21_0 : w19.cell? ⟨gb310, 0, none⟩ = some (.int .i64 0) := b1 BK310 0; have hcz21_1 : w19.cell? ⟨gb310, 1, none⟩ = some (.int .i64 0) := b1 BK310 1; have hcz21_2 : w19.cell? ⟨gb310, 2, none⟩ = some (.int .i64 0) := b1 BK310 2; have hcz21_3 : w19.cell? ⟨gb310, 3, none⟩ = some (.slice none 0 0) := b1 BK310 3; have hfz21_0 := blk_frozen BK310.out 0; have hfz21_1 := blk_frozen BK310.out 1; have hfz21_2 := blk_frozen BK310.out 2; have hfz21_3 := blk_frozen BK310.out 3; obtain ⟨Ao22, co22, eo22⟩ := Kd.R_slice HO306.out; subst eo22; have hcz23_0 : w19.cell? ⟨gb293, 0, none⟩ = some (.int .i64 a0_0) := b1 BK293 0; have hcz23_1 : w19.cell? ⟨gb293, 1, none⟩ = some (.int .i64 a0_1) := b1 BK293 1; have hcz23_2 : w19.cell? ⟨gb293, 2, none⟩ = some (.int .i64 a0_2) := b1 BK293 2; have hcz23_3 : w19.cell? ⟨gb293, 3, none⟩ = some (.slice A0_3 l0_3.length c0_3) := b1 BK293 3; have hfz23_0 := blk_frozen BK293.out 0; have hfz23_1 := blk_frozen BK293.out 1; have hfz23_2 := blk_frozen BK293.out 2; have hfz23_3 := blk_frozen BK293.out 3) | ((with_reducible refine gate_callee (f := 21) rfl ?_); refine goesL_ (some 26) rfl rfl Try.func21 (by kernel_rfl) rfl #[.agg #[.int .i64 a0_0, .int .i64 a0_1, .int .i64 a0_2, .slice A0_3 l0_3.length c0_3]] rfl (by (try simp only [m3]); first | done | rfl | (simp only [d2]; rfl)) ?_; (with_reducible refine (laws_toAuto.calls k a0_0 a0_1 a0_2 _ _ l0_3 t311 t312 t313 t314 _ ?side1 ?side2 A9.out).mono ?_); (case side1 => exact Kd.C_below HR0_3.out (zS HB.out)); (case side2 => exact HC0_3.out); rintro e w24 ⟨v315, rfl, ho0, hb⟩; refine ⟨_, rfl, ?_⟩; replace HO309 := Aside0.mk (Kd.R_below (zR (xF4 HO309 BK310)) hb); have HO316 := Aside0.mk (Kd.R_lower (Kd.R_new' (Kd.R_new' ho0 (Kd.R_lt (zR (xF4 HO300 BK310)))) (Kd.R_lt (zR (xF4 HO306 BK310)))) (below_size (zS HB.out))); replace HO300 := Aside0.mk (Kd.R_elder' (zR (xF4 HO300 BK310)) (Kd.R_base ho0) hb); replace HO306 := Aside0.mk (Kd.R_elder' (zR (xF4 HO306 BK310)) (Kd.R_base ho0) hb); replace BK293 := xB BK293 hb; replace BK310 := Aside0.mk (blk_below (g := gb310) (o := .cells #[.int .i64 t301, .int .i64 t302, .int .i64 t303, .slice Ao22 t304.length co22] 24 (0, 0)) (xP4 BK310.out) hb); replace HB := xS HB hb; (try clear hb); (try clear hb2); (try clear hk); (try clear hi); (try clear ho0)) | ((with_reducible refine gate_dst (N := 6) rfl ?_); refine box_event ?hg (N := 6) ?hd (cs := #[.int .i64 0, .int .i64 0, .int .i64 0, .slice none 0 0]) (t := 24) ?hr ?_; (case hd => rfl); (case hg => rfl); (case hr => first | (go_simp; done) | (go_simp; rfl)); intro gb317 hg w25 hbox hb; replace HO300 := xR HO300 hb; replace HO306 := xR HO306 hb; replace HO309 := xR HO309 hb; replace HO316 := xR HO316 hb; have BK317 := Aside0.mk (hbox); have GW317 := xG HB hg; have GE317 := xG HB hg; replace HB := xS HB hb; have NB293_317 := xN BK293 hg; have NB317_293 := xM BK293 hg; replace BK293 := xB BK293 hb; have NB310_317 := xN BK310 hg; have NB317_310 := xM BK310 hg; replace BK310 := xB BK310 hb; clear hb hbox hg; have hnb26 := NB317_293.out; have hnc26 := NB293_317.out; have hnb27 := NB317_310.out; have hnc27 := NB310_317.out; have hcz28_0 : w25.cell? ⟨gb317, 0, none⟩ = some (.int .i64 0) := b1 BK317 0; have hcz28_1 : w25.cell? ⟨gb317, 1, none⟩ = some (.int .i64 0) := b1 BK317 1; have hcz28_2 : w25.cell? ⟨gb317, 2, none⟩ = some (.int .i64 0) := b1 BK317 2; have hcz28_3 : w25.cell? ⟨gb317, 3, none⟩ = some (.slice none 0 0) := b1 BK317 3; have hfz28_0 := blk_frozen BK317.out 0; have hfz28_1 := blk_frozen BK317.out 1; have hfz28_2 := blk_frozen BK317.out 2; have hfz28_3 := blk_frozen BK317.out 3; obtain ⟨Ao29, co29, eo29⟩ := Kd.R_slice HO316.out; subst eo29) | ((with_reducible refine gate_callee (f := 44) rfl ?_); refine goesL_ (some 29) rfl rfl Try.func44 (by kernel_rfl) rfl #[.agg #[.int .i64 t311, .int .i64 t312, .int .i64 t313, .slice Ao29 t314.length co29]] rfl (by (try simp only [m3]); first | done | rfl | (simp only [d2]; rfl)) ?_; (with_reducible refine (impl_AutoTrim.calls k t311 t312 t313 _ _ t314 t318 t319 t320 t321 t324 _ ?side1 ?side2 A10.out).mono ?_); (case side1 => refine (Kd.R_reads' (e := 68) (base := w.heap.size) (ok := fun k_ => ((True ∧ some k_ ≠ (.slice Ao17 t298.length co17 : Value).ownBlock) ∧ some k_ ≠ (.slice Ao22 t304.length co22 : Value).ownBlock)) (n := t314.length) (c := co29) ?_).2.2; exact (zR (xF4 HO316 BK317))); (case side2 => exact (Kd.R_reads' HO316.out).2.1); rintro e w30 ⟨v322, v325, rfl, ho0, ho1, hb⟩; refine ⟨_, rfl, ?_⟩; have HO323 := Aside0.mk (Kd.R_lower (Kd.R_new' (Kd.R_new' (Kd.R_new' ho0 (Kd.R_lt (zR (xF4 HO300 BK317)))) (Kd.R_lt (zR (xF4 HO306 BK317)))) (Kd.R_lt (zR (xF4 HO316 BK317)))) (below_size (zS HB.out))); replace HO300 := Aside0.mk (Kd.R_elder' (zR (xF4 HO300 BK317)) (Kd.R_base ho0) hb); replace HO306 := Aside0.mk (Kd.R_elder' (zR (xF4 HO306 BK317)) (Kd.R_base ho0) hb); replace HO316 := Aside0.mk (Kd.R_elder' (zR (xF4 HO316 BK317)) (Kd.R_base ho0) hb); have HO326 := Aside0.mk (Kd.R_lower (Kd.R_new' ho1 (Kd.R_lt (zR (xF4 HO309 BK317)))) (below_size (zS HB.out))); replace HO309 := Aside0.mk (Kd.R_elder' (zR (xF4 HO309 BK317)) (Kd.R_base ho1) hb); replace BK293 := xB BK293 hb; replace BK310 := xB BK310 hb; replace BK317 := Aside0.mk (blk_below (g := gb317) (o := .cells #[.int .i64 t311, .int .i64 t312, .int .i64 t313, .slice Ao29 t314.length co29] 24 (0, 0)) (xP4 BK317.out) hb); replace HB := xS HB hb; (try clear hb); (try clear hb2); (try clear hk); (try clear hi); (try clear ho0); (try clear ho1)) | ((with_reducible refine gate_dst (N := 7) rfl ?_); refine box_event ?hg (N := 7) ?hd (cs := #[.int .i64 0, .int .i64 0, .int .i64 0, .slice none 0 0]) (t := 24) ?hr ?_; (case hd => rfl); (case hg => rfl); (case hr => first | (go_simp; done) | (go_simp; rfl)); intro gb327 hg w31 hbox hb; replace HO300 := xR HO300 hb; replace HO306 := xR HO306 hb; replace HO309 := xR HO309 hb; replace HO316 := xR HO316 hb; replace HO323 := xR HO323 hb; replace HO326 := xR HO326 hb; have BK327 := Aside0.mk (hbox); have GW327 := xG HB hg; have GE327 := xG HB hg; replace HB := xS HB hb; have NB293_327 := xN BK293 hg; have NB327_293 := xM BK293 hg; replace BK293 := xB BK293 hb; have NB310_327 := xN BK310 hg; have NB327_310 := xM BK310 hg; replace BK310 := xB BK310 hb; have NB317_327 := xN BK317 hg; have NB327_317 := xM BK317 hg; replace BK317 := xB BK317 hb; clear hb hbox hg; have hnb32 := NB327_293.out; have hnc32 := NB293_327.out; have hnb33 := NB327_310.out; have hnc33 := NB310_327.out; have hnb34 := NB327_317.out; have hnc34 := NB317_327.out; have hcz35_0 : w31.cell? ⟨gb327, 0, none⟩ = some (.int .i64 0) := b1 BK327 0; have hcz35_1 : w31.cell? ⟨gb327, 1, none⟩ = some (.int .i64 0) := b1 BK327 1; have hcz35_2 : w31.cell? ⟨gb327, 2, none⟩ = some (.int .i64 0) := b1 BK327 2; have hcz35_3 : w31.cell? ⟨gb327, 3, none⟩ = some (.slice none 0 0) := b1 BK327 3; have hfz35_0 := blk_frozen BK327.out 0; have hfz35_1 := blk_frozen BK327.out 1; have hfz35_2 := blk_frozen BK327.out 2; have hfz35_3 := blk_frozen BK327.out 3; obtain ⟨Ao36, co36, eo36⟩ := Kd.R_slice HO323.out; subst eo36))
  (try simp only [Act.put, q3])
  go_cut [41] (fun v41 wc => ∃ (kq : Nat) (x41_10 : Bool), v41 = .bool x41_10 ∧ Aside0 (laws_FnExactAutoTrim.j0 kq t307 t324 x41_10 a0_0 a0_1 a0_2 l0_3 t301 t302 t303 t304 t311 t312 t313 t314 t318 t319 t320 t321 = some r) ∧ Aside0 (kq ≤ k) ∧ Aside0 (Kd.R (Kd.int .i64) 3 wc w.heap.size (fun k_ => some k_ ≠ (v325 : Value).ownBlock) v308 t307) ∧ Aside0 (Kd.R (Kd.int .i64) 3 wc w.heap.size (fun k_ => some k_ ≠ (v308 : Value).ownBlock) v325 t324) ∧ Aside0 (Kd.R k68 68 wc w.heap.size (fun k_ => some k_ ≠ ((.slice Ao29 t314.length co29) : Value).ownBlock ∧ some k_ ≠ ((.slice Ao36 t321.length co36) : Value).ownBlock) (.slice Ao22 t304.length co22) t304) ∧ Aside0 (Kd.R k68 68 wc w.heap.size (fun k_ => some k_ ≠ ((.slice Ao22 t304.length co22) : Value).ownBlock ∧ some k_ ≠ ((.slice Ao36 t321.length co36) : Value).ownBlock) (.slice Ao29 t314.length co29) t314) ∧ Aside0 (Kd.R k68 68 wc w.heap.size (fun k_ => some k_ ≠ ((.slice Ao22 t304.length co22) : Value).ownBlock ∧ some k_ ≠ ((.slice Ao29 t314.length co29) : Value).ownBlock) (.slice Ao36 t321.length co36) t321) ∧ Aside0 (wc.heap[gb293]? = some (.cells #[.int .i64 a0_0, .int .i64 a0_1, .int .i64 a0_2, (.slice A0_3 l0_3.length c0_3)] 31 (0, 0))) ∧ Aside0 (wc.heap[gb310]? = some (.cells #[.int .i64 t301, .int .i64 t302, .int .i64 t303, (.slice Ao22 t304.length co22)] 24 (0, 0))) ∧ Aside0 (wc.heap[gb317]? = some (.cells #[.int .i64 t311, .int .i64 t312, .int .i64 t313, (.slice Ao29 t314.length co29)] 24 (0, 0))) ∧ Aside0 (wc.heap[gb327]? = some (.cells #[.int .i64 t318, .int .i64 t319, .int .i64 t320, (.slice Ao36 t321.length co36)] 24 (0, 0))) ∧ Aside0 (Below w.heap.size w wc))
  case first =>
   have H := HC11.out; clear HC11; replace H := Option.bind_eq_some_iff.mp H; obtain ⟨t328, A370, H⟩ := H; replace H : (if t328 = true then ((laws_eqIntS.f k t324 t307).bind fun t329 => (laws_FnExactAutoTrim.j0 k t307 t324 (!t329) a0_0 a0_1 a0_2 l0_3 t301 t302 t303 t304 t311 t312 t313 t314 t318 t319 t320 t321)) else (laws_FnExactAutoTrim.j0 k t307 t324 true a0_0 a0_1 a0_2 l0_3 t301 t302 t303 t304 t311 t312 t313 t314 t318 t319 t320 t321)) = some r := H; have A37 := Aside0.mk A370; clear A370
   by_cases c38 : t328 = true
   ·subst c38
    have H1 : ((laws_eqIntS.f k t324 t307).bind fun t329 => (laws_FnExactAutoTrim.j0 k t307 t324 (!t329) a0_0 a0_1 a0_2 l0_3 t301 t302 t303 t304 t311 t312 t313 t314 t318 t319 t320 t321)) = some r := by rw [if_pos rfl] at H; exact H
    clear H; have H := H1; clear H1; replace H := Option.bind_eq_some_iff.mp H; obtain ⟨t329, A390, H⟩ := H; replace H : (laws_FnExactAutoTrim.j0 k t307 t324 (!t329) a0_0 a0_1 a0_2 l0_3 t301 t302 t303 t304 t311 t312 t313 t314 t318 t319 t320 t321) = some r := H; have A39 := Aside0.mk A390; clear A390; have H' := Aside0.mk H; clear H; have hnb40 := NB327_293.out; have hnc40 := NB293_327.out; have hnb41 := NB327_310.out; have hnc41 := NB310_327.out; have hnb42 := NB327_317.out; have hnc42 := NB317_327.out; have hcz43_0 : w31.cell? ⟨gb327, 0, none⟩ = some (.int .i64 0) := b1 BK327 0; have hcz43_1 : w31.cell? ⟨gb327, 1, none⟩ = some (.int .i64 0) := b1 BK327 1; have hcz43_2 : w31.cell? ⟨gb327, 2, none⟩ = some (.int .i64 0) := b1 BK327 2; have hcz43_3 : w31.cell? ⟨gb327, 3, none⟩ = some (.slice none 0 0) := b1 BK327 3; have hfz43_0 := blk_frozen BK327.out 0; have hfz43_1 := blk_frozen BK327.out 1; have hfz43_2 := blk_frozen BK327.out 2; have hfz43_3 := blk_frozen BK327.out 3; have hnb44 := NB310_293.out; have hnc44 := NB293_310.out; have hnb45 := NB310_317.out; have hnc45 := NB317_310.out; have hcz46_0 : w31.cell? ⟨gb310, 0, none⟩ = some (.int .i64 t301) := b1 BK310 0; have hcz46_1 : w31.cell? ⟨gb310, 1, none⟩ = some (.int .i64 t302) := b1 BK310 1; have hcz46_2 : w31.cell? ⟨gb310, 2, none⟩ = some (.int .i64 t303) := b1 BK310 2; have hcz46_3 : w31.cell? ⟨gb310, 3, none⟩ = some (.slice Ao22 t304.length co22) := b1 BK310 3; have hfz46_0 := blk_frozen BK310.out 0; have hfz46_1 := blk_frozen BK310.out 1; have hfz46_2 := blk_frozen BK310.out 2; have hfz46_3 := blk_frozen BK310.out 3
    go_wp2_with (first | ((with_reducible refine gate_callee (f := 16) rfl ?_); refine goesL_ (some 34) rfl rfl Try.func16 (by kernel_rfl) rfl #[.agg #[.int .i64 t318, .int .i64 t319, .int .i64 t320, .slice Ao36 t321.length co36], .agg #[.int .i64 t301, .int .i64 t302, .int .i64 t303, .slice Ao22 t304.length co22]] rfl (by (try simp only [m3]); first | done | rfl | (simp only [d2]; rfl)) ?_; (with_reducible refine (laws_eqAuto.calls k t318 t319 t320 _ _ t321 t301 t302 t303 _ _ t304 true _ ?side1 ?side2 ?side3 ?side4 A37.out).mono ?_); (case side1 => refine (Kd.R_reads' (e := 68) (base := w.heap.size) (ok := fun k_ => (((True ∧ some k_ ≠ (.slice Ao17 t298.length co17 : Value).ownBlock) ∧ some k_ ≠ (.slice Ao22 t304.length co22 : Value).ownBlock) ∧ some k_ ≠ (.slice Ao29 t314.length co29 : Value).ownBlock)) (n := t321.length) (c := co36) ?_).2.2; exact (zR (xF4 HO323 BK327))); (case side2 => exact (Kd.R_reads' HO323.out).2.1); (case side3 => refine (Kd.R_reads' (e := 68) (base := w.heap.size) (ok := fun k_ => (((True ∧ some k_ ≠ (.slice Ao17 t298.length co17 : Value).ownBlock) ∧ some k_ ≠ (.slice Ao29 t314.length co29 : Value).ownBlock) ∧ some k_ ≠ (.slice Ao36 t321.length co36 : Value).ownBlock)) (n := t304.length) (c := co22) ?_).2.2; exact (zR (xF4 HO306 BK327))); (case side4 => exact (Kd.R_reads' HO306.out).2.1); rintro e w47 ⟨rfl, hb⟩; refine ⟨_, rfl, ?_⟩; replace HO300 := Aside0.mk (Kd.R_below (zR (xF4 HO300 BK327)) hb); replace HO306 := Aside0.mk (Kd.R_below (zR (xF4 HO306 BK327)) hb); replace HO309 := Aside0.mk (Kd.R_below (zR (xF4 HO309 BK327)) hb); replace HO316 := Aside0.mk (Kd.R_below (zR (xF4 HO316 BK327)) hb); replace HO323 := Aside0.mk (Kd.R_below (zR (xF4 HO323 BK327)) hb); replace HO326 := Aside0.mk (Kd.R_below (zR (xF4 HO326 BK327)) hb); replace BK293 := xB BK293 hb; replace BK310 := xB BK310 hb; replace BK317 := xB BK317 hb; replace BK327 := Aside0.mk (blk_below (g := gb327) (o := .cells #[.int .i64 t318, .int .i64 t319, .int .i64 t320, .slice Ao36 t321.length co36] 24 (0, 0)) (xP4 BK327.out) hb); replace HB := xS HB hb; (try clear hb); (try clear hb2); (try clear hk); (try clear hi); obtain ⟨Ao48, co48, eo48⟩ := Kd.R_slice HO326.out; subst eo48; obtain ⟨Ao49, co49, eo49⟩ := Kd.R_slice HO309.out; subst eo49) | (go_at_call 47; (with_reducible refine (laws_eqIntS.calls k _ _ t324 _ _ t307 t329 _ ?side1 ?side2 ?side3 ?side4 A39.out).mono ?_); (case side1 => exact zC (Kd.R_reads' HO326.out).2.2); (case side2 => exact (Kd.R_reads' HO326.out).2.1); (case side3 => exact zC (Kd.R_reads' HO309.out).2.2); (case side4 => exact (Kd.R_reads' HO309.out).2.1); rintro e w' ⟨rfl, ⟨nd, rfl⟩⟩))
    go_meet
    case rel => exact ⟨_, (!t329), (by first | rfl | (simp; done) | (simp [*]; done) | (rw [Int.tmod_eq_emod_of_nonneg (Int.natCast_nonneg _)]; done)), H', ⟨by first | omega | exact Nat.le_refl _⟩, ⟨by (with_reducible repeat (first | apply Kd.R_alloc | apply Kd.R_drewN | apply Kd.R_drew)); exact Kd.R_mono HO309.out (fun _ hk => hk.2)⟩, ⟨by (with_reducible repeat (first | apply Kd.R_alloc | apply Kd.R_drewN | apply Kd.R_drew)); exact Kd.R_mono HO326.out (fun _ hk => hk.2)⟩, ⟨by (with_reducible repeat (first | apply Kd.R_alloc | apply Kd.R_drewN | apply Kd.R_drew)); exact Kd.R_mono HO306.out (fun _ hk => ⟨hk.1.2, hk.2⟩)⟩, ⟨by (with_reducible repeat (first | apply Kd.R_alloc | apply Kd.R_drewN | apply Kd.R_drew)); exact Kd.R_mono HO316.out (fun _ hk => ⟨hk.1.2, hk.2⟩)⟩, ⟨by (with_reducible repeat (first | apply Kd.R_alloc | apply Kd.R_drewN | apply Kd.R_drew)); exact Kd.R_mono HO323.out (fun _ hk => ⟨hk.1.2, hk.2⟩)⟩, ⟨zB BK293.out⟩, ⟨zB BK310.out⟩, ⟨zB BK317.out⟩, ⟨zB BK327.out⟩, ⟨zS HB.out⟩⟩
   ·replace c38 := Bool.eq_false_iff.mpr c38; subst c38
    have H1 : (laws_FnExactAutoTrim.j0 k t307 t324 true a0_0 a0_1 a0_2 l0_3 t301 t302 t303 t304 t311 t312 t313 t314 t318 t319 t320 t321) = some r := by rw [if_neg (show ¬ (false = true) by decide)] at H; exact H
    clear H; have H := H1; clear H1; have H' := Aside0.mk H; clear H; have hnb50 := NB327_293.out; have hnc50 := NB293_327.out; have hnb51 := NB327_310.out; have hnc51 := NB310_327.out; have hnb52 := NB327_317.out; have hnc52 := NB317_327.out; have hcz53_0 : w31.cell? ⟨gb327, 0, none⟩ = some (.int .i64 0) := b1 BK327 0; have hcz53_1 : w31.cell? ⟨gb327, 1, none⟩ = some (.int .i64 0) := b1 BK327 1; have hcz53_2 : w31.cell? ⟨gb327, 2, none⟩ = some (.int .i64 0) := b1 BK327 2; have hcz53_3 : w31.cell? ⟨gb327, 3, none⟩ = some (.slice none 0 0) := b1 BK327 3; have hfz53_0 := blk_frozen BK327.out 0; have hfz53_1 := blk_frozen BK327.out 1; have hfz53_2 := blk_frozen BK327.out 2; have hfz53_3 := blk_frozen BK327.out 3; have hnb54 := NB310_293.out; have hnc54 := NB293_310.out; have hnb55 := NB310_317.out; have hnc55 := NB317_310.out; have hcz56_0 : w31.cell? ⟨gb310, 0, none⟩ = some (.int .i64 t301) := b1 BK310 0; have hcz56_1 : w31.cell? ⟨gb310, 1, none⟩ = some (.int .i64 t302) := b1 BK310 1; have hcz56_2 : w31.cell? ⟨gb310, 2, none⟩ = some (.int .i64 t303) := b1 BK310 2; have hcz56_3 : w31.cell? ⟨gb310, 3, none⟩ = some (.slice Ao22 t304.length co22) := b1 BK310 3; have hfz56_0 := blk_frozen BK310.out 0; have hfz56_1 := blk_frozen BK310.out 1; have hfz56_2 := blk_frozen BK310.out 2; have hfz56_3 := blk_frozen BK310.out 3
    go_wp2_with (first | ((with_reducible refine gate_callee (f := 16) rfl ?_); refine goesL_ (some 34) rfl rfl Try.func16 (by kernel_rfl) rfl #[.agg #[.int .i64 t318, .int .i64 t319, .int .i64 t320, .slice Ao36 t321.length co36], .agg #[.int .i64 t301, .int .i64 t302, .int .i64 t303, .slice Ao22 t304.length co22]] rfl (by (try simp only [m3]); first | done | rfl | (simp only [d2]; rfl)) ?_; (with_reducible refine (laws_eqAuto.calls k t318 t319 t320 _ _ t321 t301 t302 t303 _ _ t304 false _ ?side1 ?side2 ?side3 ?side4 A37.out).mono ?_); (case side1 => refine (Kd.R_reads' (e := 68) (base := w.heap.size) (ok := fun k_ => (((True ∧ some k_ ≠ (.slice Ao17 t298.length co17 : Value).ownBlock) ∧ some k_ ≠ (.slice Ao22 t304.length co22 : Value).ownBlock) ∧ some k_ ≠ (.slice Ao29 t314.length co29 : Value).ownBlock)) (n := t321.length) (c := co36) ?_).2.2; exact (zR (xF4 HO323 BK327))); (case side2 => exact (Kd.R_reads' HO323.out).2.1); (case side3 => refine (Kd.R_reads' (e := 68) (base := w.heap.size) (ok := fun k_ => (((True ∧ some k_ ≠ (.slice Ao17 t298.length co17 : Value).ownBlock) ∧ some k_ ≠ (.slice Ao29 t314.length co29 : Value).ownBlock) ∧ some k_ ≠ (.slice Ao36 t321.length co36 : Value).ownBlock)) (n := t304.length) (c := co22) ?_).2.2; exact (zR (xF4 HO306 BK327))); (case side4 => exact (Kd.R_reads' HO306.out).2.1); rintro e w57 ⟨rfl, hb⟩; refine ⟨_, rfl, ?_⟩; replace HO300 := Aside0.mk (Kd.R_below (zR (xF4 HO300 BK327)) hb); replace HO306 := Aside0.mk (Kd.R_below (zR (xF4 HO306 BK327)) hb); replace HO309 := Aside0.mk (Kd.R_below (zR (xF4 HO309 BK327)) hb); replace HO316 := Aside0.mk (Kd.R_below (zR (xF4 HO316 BK327)) hb); replace HO323 := Aside0.mk (Kd.R_below (zR (xF4 HO323 BK327)) hb); replace HO326 := Aside0.mk (Kd.R_below (zR (xF4 HO326 BK327)) hb); replace BK293 := xB BK293 hb; replace BK310 := xB BK310 hb; replace BK317 := xB BK317 hb; replace BK327 := Aside0.mk (blk_below (g := gb327) (o := .cells #[.int .i64 t318, .int .i64 t319, .int .i64 t320, .slice Ao36 t321.length co36] 24 (0, 0)) (xP4 BK327.out) hb); replace HB := xS HB hb; (try clear hb); (try clear hb2); (try clear hk); (try clear hi)))
    go_meet
    case rel => exact ⟨_, (true), (by first | rfl | (simp; done) | (simp [*]; done) | (rw [Int.tmod_eq_emod_of_nonneg (Int.natCast_nonneg _)]; done)), H', ⟨by first | omega | exact Nat.le_refl _⟩, ⟨by (with_reducible repeat (first | apply Kd.R_alloc | apply Kd.R_drewN | apply Kd.R_drew)); exact Kd.R_mono HO309.out (fun _ hk => hk.2)⟩, ⟨by (with_reducible repeat (first | apply Kd.R_alloc | apply Kd.R_drewN | apply Kd.R_drew)); exact Kd.R_mono HO326.out (fun _ hk => hk.2)⟩, ⟨by (with_reducible repeat (first | apply Kd.R_alloc | apply Kd.R_drewN | apply Kd.R_drew)); exact Kd.R_mono HO306.out (fun _ hk => ⟨hk.1.2, hk.2⟩)⟩, ⟨by (with_reducible repeat (first | apply Kd.R_alloc | apply Kd.R_drewN | apply Kd.R_drew)); exact Kd.R_mono HO316.out (fun _ hk => ⟨hk.1.2, hk.2⟩)⟩, ⟨by (with_reducible repeat (first | apply Kd.R_alloc | apply Kd.R_drewN | apply Kd.R_drew)); exact Kd.R_mono HO323.out (fun _ hk => ⟨hk.1.2, hk.2⟩)⟩, ⟨zB BK293.out⟩, ⟨zB BK310.out⟩, ⟨zB BK317.out⟩, ⟨zB BK327.out⟩, ⟨zS HB.out⟩⟩
  case rest =>
   clear HC11
   try clear c1
   try clear c2
   try clear p2
   try clear c3
   try clear c3b0
   try clear c4
   try clear c5
   try clear c12
   try clear c16
   try clear c19
   try clear c20
   try clear c21
   try clear c26
   try clear c27
   try clear c32
   try clear c33
   try clear c34
   try clear c38
   try clear c40
   try clear c41
   try clear c42
   try clear c44
   try clear c45
   try clear c46
   try clear c50
   try clear c51
   try clear c52
   try clear c54
   try clear c55
   try clear hcz13_0
   try clear hcz13_1
   try clear hcz13_2
   try clear hcz13_3
   try clear hcz15_0
   try clear hcz15_1
   try clear hcz15_2
   try clear hcz15_3
   try clear hcz21_0
   try clear hcz21_1
   try clear hcz21_2
   try clear hcz21_3
   try clear hcz23_0
   try clear hcz23_1
   try clear hcz23_2
   try clear hcz23_3
   try clear hcz28_0
   try clear hcz28_1
   try clear hcz28_2
   try clear hcz28_3
   try clear hcz35_0
   try clear hcz35_1
   try clear hcz35_2
   try clear hcz35_3
   try clear hcz43_0
   try clear hcz43_1
   try clear hcz43_2
   try clear hcz43_3
   try clear hcz46_0
   try clear hcz46_1
   try clear hcz46_2
   try clear hcz46_3
   try clear hcz53_0
   try clear hcz53_1
   try clear hcz53_2
   try clear hcz53_3
   try clear hcz56_0
   try clear hcz56_1
   try clear hcz56_2
   try clear hcz56_3
   try clear hcz5_0
   try clear hcz5_1
   try clear hcz5_2
   try clear hcz5_3
   try clear hfz13_0
   try clear hfz13_1
   try clear hfz13_2
   try clear hfz13_3
   try clear hfz15_0
   try clear hfz15_1
   try clear hfz15_2
   try clear hfz15_3
   try clear hfz21_0
   try clear hfz21_1
   try clear hfz21_2
   try clear hfz21_3
   try clear hfz23_0
   try clear hfz23_1
   try clear hfz23_2
   try clear hfz23_3
   try clear hfz28_0
   try clear hfz28_1
   try clear hfz28_2
   try clear hfz28_3
   try clear hfz35_0
   try clear hfz35_1
   try clear hfz35_2
   try clear hfz35_3
   try clear hfz43_0
   try clear hfz43_1
   try clear hfz43_2
   try clear hfz43_3
   try clear hfz46_0
   try clear hfz46_1
   try clear hfz46_2
   try clear hfz46_3
   try clear hfz53_0
   try clear hfz53_1
   try clear hfz53_2
   try clear hfz53_3
   try clear hfz56_0
   try clear hfz56_1
   try clear hfz56_2
   try clear hfz56_3
   try clear hfz5_0
   try clear hfz5_1
   try clear hfz5_2
   try clear hfz5_3
   obtain ⟨kq, x41_10, rfl, HA, HJ10, HO_5, HO_8, HO_311003, HO_318003, HO_328003, BK293, BK310, BK317, BK327, HB⟩ := hcut
   cases kq with
   | zero => exact absurd HA.out (by simp [laws_FnExactAutoTrim.j0])
   | succ kj10 =>
    have H := HA.out; clear HA; simp only [laws_FnExactAutoTrim.j0] at H
    by_cases c58 : x41_10 = true
    ·subst c58
     have H1 : (some false) = some r := by rw [if_pos rfl] at H; exact H
     clear H; have H := H1; clear H1; obtain rfl := Option.some.inj H
     go_wp2
     go_ret; exact ⟨by first | rfl | (simp [errW_none, errW_some] <;> rfl) | (simp [*, errW_none, errW_some] <;> rfl), by repeat (first | (with_reducible first | exact HB.out | apply below_alloc | apply pw_below_drewN | apply below_drew1 | refine below_set ?_ GE293.out | refine below_set ?_ GE310.out | refine below_set ?_ GE317.out | refine below_set ?_ GE327.out) | exact HB.out)⟩
    ·replace c58 := Bool.eq_false_iff.mpr c58; subst c58
     have H1 : ((laws_toAuto.f kj10 a0_0 a0_1 a0_2 l0_3).bind fun bt330 => ((laws_eqAuto.f kj10 t311 t312 t313 t314 bt330.1 bt330.2.1 bt330.2.2.1 bt330.2.2.2).bind fun t336 => (if t336 = true then ((laws_markAuto.f kj10 t311 t312 t313 t314 1).bind fun bt337 => (if bt337.1 < 0 then (laws_FnExactAutoTrim.j1 kj10 t307 t324 true a0_0 a0_1 a0_2 l0_3 t301 t302 t303 t304 t318 t319 t320 t321) else ((laws_eqAuto.f kj10 t318 t319 t320 t321 t301 t302 t303 t304).bind fun t339 => (if t339 = true then ((laws_eqIntS.f kj10 t324 t307).bind fun t340 => (laws_FnExactAutoTrim.j1 kj10 t307 t324 (!t340) a0_0 a0_1 a0_2 l0_3 t301 t302 t303 t304 t318 t319 t320 t321)) else (laws_FnExactAutoTrim.j1 kj10 t307 t324 true a0_0 a0_1 a0_2 l0_3 t301 t302 t303 t304 t318 t319 t320 t321))))) else (some false)))) = some r := by rw [if_neg (show ¬ (false = true) by decide)] at H; exact H
     clear H; have H := H1; clear H1; replace H := Option.bind_eq_some_iff.mp H; obtain ⟨⟨t330, t331, t332, t333⟩, A590, H⟩ := H; replace H : ((laws_eqAuto.f kj10 t311 t312 t313 t314 t330 t331 t332 t333).bind fun t336 => (if t336 = true then ((laws_markAuto.f kj10 t311 t312 t313 t314 1).bind fun bt337 => (if bt337.1 < 0 then (laws_FnExactAutoTrim.j1 kj10 t307 t324 true a0_0 a0_1 a0_2 l0_3 t301 t302 t303 t304 t318 t319 t320 t321) else ((laws_eqAuto.f kj10 t318 t319 t320 t321 t301 t302 t303 t304).bind fun t339 => (if t339 = true then ((laws_eqIntS.f kj10 t324 t307).bind fun t340 => (laws_FnExactAutoTrim.j1 kj10 t307 t324 (!t340) a0_0 a0_1 a0_2 l0_3 t301 t302 t303 t304 t318 t319 t320 t321)) else (laws_FnExactAutoTrim.j1 kj10 t307 t324 true a0_0 a0_1 a0_2 l0_3 t301 t302 t303 t304 t318 t319 t320 t321))))) else (some false))) = some r := H; have A59 := Aside0.mk A590; clear A590; replace H := Option.bind_eq_some_iff.mp H; obtain ⟨t336, A600, H⟩ := H; replace H : (if t336 = true then ((laws_markAuto.f kj10 t311 t312 t313 t314 1).bind fun bt337 => (if bt337.1 < 0 then (laws_FnExactAutoTrim.j1 kj10 t307 t324 true a0_0 a0_1 a0_2 l0_3 t301 t302 t303 t304 t318 t319 t320 t321) else ((laws_eqAuto.f kj10 t318 t319 t320 t321 t301 t302 t303 t304).bind fun t339 => (if t339 = true then ((laws_eqIntS.f kj10 t324 t307).bind fun t340 => (laws_FnExactAutoTrim.j1 kj10 t307 t324 (!t340) a0_0 a0_1 a0_2 l0_3 t301 t302 t303 t304 t318 t319 t320 t321)) else (laws_FnExactAutoTrim.j1 kj10 t307 t324 true a0_0 a0_1 a0_2 l0_3 t301 t302 t303 t304 t318 t319 t320 t321))))) else (some false)) = some r := H; have A60 := Aside0.mk A600; clear A600
     by_cases c61 : t336 = true
     ·subst c61
      have H1 : ((laws_markAuto.f kj10 t311 t312 t313 t314 1).bind fun bt337 => (if bt337.1 < 0 then (laws_FnExactAutoTrim.j1 kj10 t307 t324 true a0_0 a0_1 a0_2 l0_3 t301 t302 t303 t304 t318 t319 t320 t321) else ((laws_eqAuto.f kj10 t318 t319 t320 t321 t301 t302 t303 t304).bind fun t339 => (if t339 = true then ((laws_eqIntS.f kj10 t324 t307).bind fun t340 => (laws_FnExactAutoTrim.j1 kj10 t307 t324 (!t340) a0_0 a0_1 a0_2 l0_3 t301 t302 t303 t304 t318 t319 t320 t321)) else (laws_FnExactAutoTrim.j1 kj10 t307 t324 true a0_0 a0_1 a0_2 l0_3 t301 t302 t303 t304 t318 t319 t320 t321))))) = some r := by rw [if_pos rfl] at H; exact H
      clear H; have H := H1; clear H1; replace H := Option.bind_eq_some_iff.mp H; obtain ⟨⟨t337, t338⟩, A620, H⟩ := H; replace H : (if t337 < 0 then (laws_FnExactAutoTrim.j1 kj10 t307 t324 true a0_0 a0_1 a0_2 l0_3 t301 t302 t303 t304 t318 t319 t320 t321) else ((laws_eqAuto.f kj10 t318 t319 t320 t321 t301 t302 t303 t304).bind fun t339 => (if t339 = true then ((laws_eqIntS.f kj10 t324 t307).bind fun t340 => (laws_FnExactAutoTrim.j1 kj10 t307 t324 (!t340) a0_0 a0_1 a0_2 l0_3 t301 t302 t303 t304 t318 t319 t320 t321)) else (laws_FnExactAutoTrim.j1 kj10 t307 t324 true a0_0 a0_1 a0_2 l0_3 t301 t302 t303 t304 t318 t319 t320 t321)))) = some r := H; have A62 := Aside0.mk A620; clear A620; have HC63 := Aside0.mk H; clear H
      try go_wp2
      replace HO_5 := Aside0.mk (Kd.R_drew HO_5.out); replace HO_8 := Aside0.mk (Kd.R_drew HO_8.out); replace HO_311003 := Aside0.mk (Kd.R_drew HO_311003.out); replace HO_318003 := Aside0.mk (Kd.R_drew HO_318003.out); replace HO_328003 := Aside0.mk (Kd.R_drew HO_328003.out); replace BK293 := Aside0.mk (blk_drew BK293.out); replace BK310 := Aside0.mk (blk_drew BK310.out); replace BK317 := Aside0.mk (blk_drew BK317.out); replace BK327 := Aside0.mk (blk_drew BK327.out); replace HB := Aside0.mk (below_drew1 HB.out); refine start_ (n := 5) (S := fun w' => w'.cell? ⟨gb317, 0, none⟩ = some (.int .i64 t311) ∧ w'.cell? ⟨gb317, 1, none⟩ = some (.int .i64 t312) ∧ w'.cell? ⟨gb317, 2, none⟩ = some (.int .i64 t313) ∧ w'.cell? ⟨gb317, 3, none⟩ = some (.slice Ao29 t314.length co29) ∧ w'.cell? ⟨gb293, 0, none⟩ = some (.int .i64 a0_0) ∧ w'.cell? ⟨gb293, 1, none⟩ = some (.int .i64 a0_1) ∧ w'.cell? ⟨gb293, 2, none⟩ = some (.int .i64 a0_2) ∧ w'.cell? ⟨gb293, 3, none⟩ = some (.slice A0_3 l0_3.length c0_3)) (ds := []) #[false, false, false, false, false] (by kernel_rfl) rfl rfl ⟨b1 BK317 0, b1 BK317 1, b1 BK317 2, b1 BK317 3, b1 BK293 0, b1 BK293 1, b1 BK293 2, b1 BK293 3⟩ (fun hHeld => ?_); generalize wc.drew = w64 at HO_5 HO_8 HO_311003 HO_318003 HO_328003 BK293 BK310 BK317 BK327 HB hHeld ⊢; refine take_ (i := 0) (N := some 42) (v := ?_) (a' := ?_) #[true, false, false, false, false] rfl rfl (by kernel_rfl) (fun _ _ _ h => h) (Or.inl ⟨by rfl, ?_⟩) hHeld ?_ ?_; rotate_left
      ·rintro w' ⟨s0, s1, s2, s3, s4, s5, s6, s7⟩; go_simp; with_reducible rfl
      rotate_left
      ·simp only [Act.put, q5]; rfl
      refine take_ (i := 1) (N := some 43) (v := ?_) (a' := ?_) #[true, true, false, false, false] rfl rfl (by kernel_rfl) (fun _ _ _ h => h) (Or.inl ⟨by rfl, ?_⟩) hHeld ?_ ?_; rotate_left
      ·rintro w' ⟨s0, s1, s2, s3, s4, s5, s6, s7⟩; go_simp; with_reducible rfl
      rotate_left
      ·simp only [Act.put, q5]; rfl
      refine one_ (i := 2) (N := some 44) #[true, true, true, false, false] rfl rfl (by kernel_rfl) (by decide) (fun K hK => ?_); refine goes_ Try.func21 (by kernel_rfl) rfl #[.agg #[.int .i64 a0_0, .int .i64 a0_1, .int .i64 a0_2, .slice A0_3 l0_3.length c0_3]] (by rfl) rfl rfl (by (try simp only [m3]); first | done | rfl | (simp only [d2]; rfl)) ?_
      with_reducible refine (laws_toAuto.calls kj10 a0_0 a0_1 a0_2 _ _ l0_3 t330 t331 t332 t333 _ ?side1 ?side2 A59.out).mono ?_
      (case side1 => exact zC (Kd.C_below HR0_3.out HB.out))
      (case side2 => exact HC0_3.out)
      rintro e w65 ⟨v334, rfl, ho0, hb⟩; refine ⟨_, rfl, ?_⟩; replace HO_5 := xR HO_5 hb; replace HO_8 := xR HO_8 hb; have HO335 := Aside0.mk (Kd.R_lower (Kd.R_new' (Kd.R_new' (Kd.R_new' ho0 (Kd.R_lt (zR HO_311003.out))) (Kd.R_lt (zR HO_318003.out))) (Kd.R_lt (zR HO_328003.out))) (below_size (zS HB.out))); replace HO_311003 := xE HO_311003 ho0 hb; replace HO_318003 := xE HO_318003 ho0 hb; replace HO_328003 := xE HO_328003 ho0 hb; replace BK293 := xB BK293 hb; replace BK310 := xB BK310 hb; replace BK317 := xB BK317 hb; replace BK327 := xB BK327 hb; replace HB := xS HB hb
      (try clear hb)
      (try clear hb2)
      (try clear hk)
      (try clear hi)
      (try clear ho0)
      obtain ⟨Ao66, co66, eo66⟩ := Kd.R_slice HO335.out
      (first | subst eo66 | (injection eo66 with f1_ f2_ f3_; have f4_ := f1_.symm; have f5_ := f3_.symm; clear f1_ f2_ f3_; subst f4_; subst f5_))
      refine hK.out _ _ ⟨b1 BK317 0, b1 BK317 1, b1 BK317 2, b1 BK317 3, b1 BK293 0, b1 BK293 1, b1 BK293 2, b1 BK293 3⟩ (fun hHeld => ?_); clear hK K; refine norm_ (a' := ?_) ?_ ?_; rotate_left
      ·show Act.put _ (some 44) _ = _; simp only [Act.put, q5]; rfl
      refine one_ (i := 3) (N := some 45) #[true, true, true, true, false] rfl rfl (by kernel_rfl) (by decide) (fun K hK => ?_); refine goes_ Try.func16 (by kernel_rfl) rfl #[.agg #[.int .i64 t311, .int .i64 t312, .int .i64 t313, .slice Ao29 t314.length co29], .agg #[.int .i64 t330, .int .i64 t331, .int .i64 t332, .slice Ao66 t333.length co66]] (by rfl) rfl rfl (by (try simp only [m3]); first | done | rfl | (simp only [d2]; rfl)) ?_
      with_reducible refine (laws_eqAuto.calls kj10 t311 t312 t313 _ _ t314 t330 t331 t332 _ _ t333 true _ ?side1 ?side2 ?side3 ?side4 A60.out).mono ?_
      (case side1 => exact zC (Kd.R_reads' HO_318003.out).2.2)
      (case side2 => exact (Kd.R_reads' HO_318003.out).2.1)
      (case side3 => exact zC (Kd.R_reads' HO335.out).2.2)
      (case side4 => exact (Kd.R_reads' HO335.out).2.1)
      rintro e w67 ⟨rfl, hb⟩; refine ⟨_, rfl, ?_⟩; replace HO_5 := xR HO_5 hb; replace HO_8 := xR HO_8 hb; replace HO_311003 := xR HO_311003 hb; replace HO_318003 := xR HO_318003 hb; replace HO_328003 := xR HO_328003 hb; replace HO335 := xR HO335 hb; replace BK293 := xB BK293 hb; replace BK310 := xB BK310 hb; replace BK317 := xB BK317 hb; replace BK327 := xB BK327 hb; replace HB := xS HB hb
      (try clear hb)
      (try clear hb2)
      (try clear hk)
      (try clear hi)
      refine hK.out _ _ ⟨b1 BK317 0, b1 BK317 1, b1 BK317 2, b1 BK317 3, b1 BK293 0, b1 BK293 1, b1 BK293 2, b1 BK293 3⟩ (fun hHeld => ?_); clear hK K; refine norm_ (a' := ?_) ?_ ?_; rotate_left
      ·show Act.put _ (some 45) _ = _; simp only [Act.put, q5]; rfl
      refine pure_ (i := 4) (N := some 46) (v := ?_) (a' := ?_) #[true, true, true, true, true] rfl rfl (by kernel_rfl) (fun _ _ _ h => h) (Or.inl ⟨by rfl, ?_⟩) ?_ ?_; rotate_left; (intro w'; go_simp; with_reducible rfl); rotate_left; (simp only [Act.put, q5]; rfl)
      refine done_ (by kernel_rfl) ?_; have hnb68 := NB317_293.out; have hnc68 := NB293_317.out; have hnb69 := NB317_310.out; have hnc69 := NB310_317.out; have hnb70 := NB317_327.out; have hnc70 := NB327_317.out; have hcz71_0 : w67.cell? ⟨gb317, 0, none⟩ = some (.int .i64 t311) := b1 BK317 0; have hcz71_1 : w67.cell? ⟨gb317, 1, none⟩ = some (.int .i64 t312) := b1 BK317 1; have hcz71_2 : w67.cell? ⟨gb317, 2, none⟩ = some (.int .i64 t313) := b1 BK317 2; have hcz71_3 : w67.cell? ⟨gb317, 3, none⟩ = some (.slice Ao29 t314.length co29) := b1 BK317 3; have hfz71_0 := blk_frozen BK317.out 0; have hfz71_1 := blk_frozen BK317.out 1; have hfz71_2 := blk_frozen BK317.out 2; have hfz71_3 := blk_frozen BK317.out 3
      go_upto_region 14 with (first | ((with_reducible refine gate_callee (f := 17) rfl ?_); refine goesL_ (some 49) rfl rfl Try.func17 (by kernel_rfl) rfl #[.agg #[.int .i64 t311, .int .i64 t312, .int .i64 t313, .slice Ao29 t314.length co29], .int .i64 1] rfl (by (try simp only [m3]); first | done | rfl | (simp only [d2]; rfl)) ?_; (with_reducible refine (laws_markAuto.calls kj10 t311 t312 t313 (fun k_ => some k_ = (.slice Ao29 t314.length co29 : Value).ownBlock) (.slice Ao29 t314.length co29) t314 1 t337 t338 w _ ?side1 ?side2 A62.out).mono ?_); (case side1 => repeat (first | (with_reducible first | exact HB.out | apply below_alloc | apply pw_below_drewN | apply below_drew1 | refine below_set ?_ GE293.out | refine below_set ?_ GE310.out | refine below_set ?_ GE317.out | refine below_set ?_ GE327.out) | exact HB.out)); (case side2 => exact Kd.R_tight rfl HO_318003.out); rintro e w72 ⟨rfl, hy0, hb, hkp⟩; refine ⟨_, rfl, ?_⟩; replace HO_5 := Aside0.mk (Kd.R_mono (ok' := fun k_ => some k_ ≠ (v325 : Value).ownBlock) (Kd.R_keptB ((Kd.R_apart' HO_5.out (Kd.R_typed HO_318003.out) (by decide))) hkp (fun k_ hk_ hs_ => (hk_.2) hs_)) (fun k_ hk_ => hk_.1.1)); replace HO_8 := Aside0.mk (Kd.R_mono (ok' := fun k_ => some k_ ≠ (v308 : Value).ownBlock) (Kd.R_keptB ((Kd.R_apart' HO_8.out (Kd.R_typed HO_318003.out) (by decide))) hkp (fun k_ hk_ hs_ => (hk_.2) hs_)) (fun k_ hk_ => hk_.1.1)); replace HO_311003 := Aside0.mk (Kd.R_mono (ok' := fun k_ => some k_ ≠ (.slice Ao29 t314.length co29 : Value).ownBlock ∧ some k_ ≠ (.slice Ao36 t321.length co36 : Value).ownBlock ∧ some k_ ≠ (.slice Ao66 t333.length co66 : Value).ownBlock) (Kd.R_keptB (HO_311003.out) hkp (fun k_ hk_ hs_ => (hk_.1.1) hs_)) (fun k_ hk_ => ⟨hk_.1.1.1, hk_.1.1.2, hk_.1.2⟩)); replace HO_328003 := Aside0.mk (Kd.R_mono (ok' := fun k_ => some k_ ≠ (.slice Ao22 t304.length co22 : Value).ownBlock ∧ some k_ ≠ (.slice Ao29 t314.length co29 : Value).ownBlock ∧ some k_ ≠ (.slice Ao66 t333.length co66 : Value).ownBlock) (Kd.R_keptB (HO_328003.out) hkp (fun k_ hk_ hs_ => (hk_.1.2) hs_)) (fun k_ hk_ => ⟨hk_.1.1.1, hk_.1.1.2, hk_.1.2⟩)); replace BK293 := Aside0.mk (blk_kept (zB BK293.out) hkp (fun hs_ => (fun e_ => (Kd.R_ne HO_318003.out BK293.out (by decide)) e_) hs_)); replace BK310 := Aside0.mk (blk_kept (zB BK310.out) hkp (fun hs_ => (fun e_ => (Kd.R_ne HO_318003.out BK310.out (by decide)) e_) hs_)); replace BK317 := Aside0.mk (blk_kept (zB BK317.out) hkp (fun hs_ => (fun e_ => (Kd.R_ne HO_318003.out BK317.out (by decide)) e_) hs_)); replace BK327 := Aside0.mk (blk_kept (zB BK327.out) hkp (fun hs_ => (fun e_ => (Kd.R_ne HO_318003.out BK327.out (by decide)) e_) hs_)); replace HO_318003 := Aside0.mk (Kd.R_reok rfl hy0 (fun k_ e_ => HO_318003.out.1 k_ e_)); replace HO335 := Aside0.mk (Kd.R_mono (ok' := fun k_ => some k_ ≠ (.slice Ao22 t304.length co22 : Value).ownBlock ∧ some k_ ≠ (.slice Ao29 t314.length co29 : Value).ownBlock ∧ some k_ ≠ (.slice Ao36 t321.length co36 : Value).ownBlock) (Kd.R_keptB (HO335.out) hkp (fun k_ hk_ hs_ => (hk_.1.2) hs_)) (fun k_ hk_ => ⟨hk_.1.1.1.2, hk_.1.1.2, hk_.1.2⟩)); replace HB := Aside0.mk (hb); (try clear hb); (try clear hkp); (try clear hy0)))
      (try simp only [Act.put, q3])
      go_cut [63] (fun v63 wc => ∃ (kq : Nat) (x63_62 : Bool), v63 = .bool x63_62 ∧ Aside0 (laws_FnExactAutoTrim.j1 kq t307 t324 x63_62 a0_0 a0_1 a0_2 l0_3 t301 t302 t303 t304 t318 t319 t320 t321 = some r) ∧ Aside0 (kq ≤ kj10) ∧ Aside0 (Kd.R (Kd.int .i64) 3 wc w.heap.size (fun k_ => some k_ ≠ (v325 : Value).ownBlock) v308 t307) ∧ Aside0 (Kd.R (Kd.int .i64) 3 wc w.heap.size (fun k_ => some k_ ≠ (v308 : Value).ownBlock) v325 t324) ∧ Aside0 (Kd.R k68 68 wc w.heap.size (fun k_ => some k_ ≠ ((.slice Ao29 t314.length co29) : Value).ownBlock ∧ some k_ ≠ ((.slice Ao36 t321.length co36) : Value).ownBlock) (.slice Ao22 t304.length co22) t304) ∧ Aside0 (Kd.R k68 68 wc w.heap.size (fun k_ => some k_ ≠ ((.slice Ao22 t304.length co22) : Value).ownBlock ∧ some k_ ≠ ((.slice Ao36 t321.length co36) : Value).ownBlock) (.slice Ao29 t314.length co29) t338) ∧ Aside0 (Kd.R k68 68 wc w.heap.size (fun k_ => some k_ ≠ ((.slice Ao22 t304.length co22) : Value).ownBlock ∧ some k_ ≠ ((.slice Ao29 t314.length co29) : Value).ownBlock) (.slice Ao36 t321.length co36) t321) ∧ Aside0 (wc.heap[gb293]? = some (.cells #[.int .i64 a0_0, .int .i64 a0_1, .int .i64 a0_2, (.slice A0_3 l0_3.length c0_3)] 31 (0, 0))) ∧ Aside0 (wc.heap[gb310]? = some (.cells #[.int .i64 t301, .int .i64 t302, .int .i64 t303, (.slice Ao22 t304.length co22)] 24 (0, 0))) ∧ Aside0 (wc.heap[gb317]? = some (.cells #[.int .i64 t311, .int .i64 t312, .int .i64 t313, (.slice Ao29 t314.length co29)] 24 (0, 0))) ∧ Aside0 (wc.heap[gb327]? = some (.cells #[.int .i64 t318, .int .i64 t319, .int .i64 t320, (.slice Ao36 t321.length co36)] 24 (0, 0))) ∧ Aside0 (Below w.heap.size w wc))
      case first =>
       have H := HC63.out; clear HC63
       by_cases c73 : t337 < 0
       ·rw [if_pos c73] at H; have c73b0 : decide (t337 < 0) = true := decide_eq_true c73; clear c73
        (first | rw [c73b0] | (simp only [i64_w, i32_w]; rw [c73b0]) | skip)
        have H' := Aside0.mk H; clear H
        go_wp2
        go_meet
        case rel => exact ⟨_, (true), (by first | rfl | (simp; done) | (simp [*]; done) | (rw [Int.tmod_eq_emod_of_nonneg (Int.natCast_nonneg _)]; done)), H', ⟨by have := HJ10.out; first | omega | exact Nat.le_refl _⟩, ⟨zR HO_5.out⟩, ⟨zR HO_8.out⟩, ⟨by (with_reducible repeat (first | apply Kd.R_alloc | apply Kd.R_drewN | apply Kd.R_drew)); exact Kd.R_mono HO_311003.out (fun _ hk => ⟨hk.1, hk.2.1⟩)⟩, ⟨by (with_reducible repeat (first | apply Kd.R_alloc | apply Kd.R_drewN | apply Kd.R_drew)); exact Kd.R_mono HO_318003.out (fun _ hk => ⟨hk.1.1, hk.1.2⟩)⟩, ⟨by (with_reducible repeat (first | apply Kd.R_alloc | apply Kd.R_drewN | apply Kd.R_drew)); exact Kd.R_mono HO_328003.out (fun _ hk => ⟨hk.1, hk.2.1⟩)⟩, ⟨zB BK293.out⟩, ⟨zB BK310.out⟩, ⟨zB BK317.out⟩, ⟨zB BK327.out⟩, ⟨zS HB.out⟩⟩
       ·rw [if_neg c73] at H; have c73b0 : decide (t337 < 0) = false := decide_eq_false c73; clear c73
        (first | rw [c73b0] | (simp only [i64_w, i32_w]; rw [c73b0]) | skip)
        replace H := Option.bind_eq_some_iff.mp H; obtain ⟨t339, A740, H⟩ := H; replace H : (if t339 = true then ((laws_eqIntS.f kj10 t324 t307).bind fun t340 => (laws_FnExactAutoTrim.j1 kj10 t307 t324 (!t340) a0_0 a0_1 a0_2 l0_3 t301 t302 t303 t304 t318 t319 t320 t321)) else (laws_FnExactAutoTrim.j1 kj10 t307 t324 true a0_0 a0_1 a0_2 l0_3 t301 t302 t303 t304 t318 t319 t320 t321)) = some r := H; have A74 := Aside0.mk A740; clear A740
        by_cases c75 : t339 = true
        ·subst c75
         have H1 : ((laws_eqIntS.f kj10 t324 t307).bind fun t340 => (laws_FnExactAutoTrim.j1 kj10 t307 t324 (!t340) a0_0 a0_1 a0_2 l0_3 t301 t302 t303 t304 t318 t319 t320 t321)) = some r := by rw [if_pos rfl] at H; exact H
         clear H; have H := H1; clear H1; replace H := Option.bind_eq_some_iff.mp H; obtain ⟨t340, A760, H⟩ := H; replace H : (laws_FnExactAutoTrim.j1 kj10 t307 t324 (!t340) a0_0 a0_1 a0_2 l0_3 t301 t302 t303 t304 t318 t319 t320 t321) = some r := H; have A76 := Aside0.mk A760; clear A760; have H' := Aside0.mk H; clear H; have hnb77 := NB327_293.out; have hnc77 := NB293_327.out; have hnb78 := NB327_310.out; have hnc78 := NB310_327.out; have hnb79 := NB327_317.out; have hnc79 := NB317_327.out; have hcz80_0 : w72.cell? ⟨gb327, 0, none⟩ = some (.int .i64 t318) := b1 BK327 0; have hcz80_1 : w72.cell? ⟨gb327, 1, none⟩ = some (.int .i64 t319) := b1 BK327 1; have hcz80_2 : w72.cell? ⟨gb327, 2, none⟩ = some (.int .i64 t320) := b1 BK327 2; have hcz80_3 : w72.cell? ⟨gb327, 3, none⟩ = some (.slice Ao36 t321.length co36) := b1 BK327 3; have hfz80_0 := blk_frozen BK327.out 0; have hfz80_1 := blk_frozen BK327.out 1; have hfz80_2 := blk_frozen BK327.out 2; have hfz80_3 := blk_frozen BK327.out 3; have hnb81 := NB310_293.out; have hnc81 := NB293_310.out; have hnb82 := NB310_317.out; have hnc82 := NB317_310.out; have hcz83_0 : w72.cell? ⟨gb310, 0, none⟩ = some (.int .i64 t301) := b1 BK310 0; have hcz83_1 : w72.cell? ⟨gb310, 1, none⟩ = some (.int .i64 t302) := b1 BK310 1; have hcz83_2 : w72.cell? ⟨gb310, 2, none⟩ = some (.int .i64 t303) := b1 BK310 2; have hcz83_3 : w72.cell? ⟨gb310, 3, none⟩ = some (.slice Ao22 t304.length co22) := b1 BK310 3; have hfz83_0 := blk_frozen BK310.out 0; have hfz83_1 := blk_frozen BK310.out 1; have hfz83_2 := blk_frozen BK310.out 2; have hfz83_3 := blk_frozen BK310.out 3
         go_wp2_with (first | (go_at_call 16; (with_reducible refine (laws_eqAuto.calls kj10 t318 t319 t320 _ _ t321 t301 t302 t303 _ _ t304 true _ ?side1 ?side2 ?side3 ?side4 A74.out).mono ?_); (case side1 => exact zC (Kd.R_reads' HO_328003.out).2.2); (case side2 => exact (Kd.R_reads' HO_328003.out).2.1); (case side3 => exact zC (Kd.R_reads' HO_311003.out).2.2); (case side4 => exact (Kd.R_reads' HO_311003.out).2.1); rintro e w84 ⟨rfl, hb⟩; replace HO_5 := xR HO_5 hb; replace HO_8 := xR HO_8 hb; replace HO_311003 := xR HO_311003 hb; replace HO_318003 := xR HO_318003 hb; replace HO_328003 := xR HO_328003 hb; replace HO335 := xR HO335 hb; replace BK293 := xB BK293 hb; replace BK310 := xB BK310 hb; replace BK317 := xB BK317 hb; replace BK327 := xB BK327 hb; replace HB := xS HB hb; (try clear hb); (try clear hb2); (try clear hk); (try clear hi); obtain ⟨Ao85, co85, eo85⟩ := Kd.R_slice HO_8.out; subst eo85; obtain ⟨Ao86, co86, eo86⟩ := Kd.R_slice HO_5.out; subst eo86) | (go_at_call 47; (with_reducible refine (laws_eqIntS.calls kj10 _ _ t324 _ _ t307 t340 _ ?side1 ?side2 ?side3 ?side4 A76.out).mono ?_); (case side1 => exact zC (Kd.R_reads' HO_8.out).2.2); (case side2 => exact (Kd.R_reads' HO_8.out).2.1); (case side3 => exact zC (Kd.R_reads' HO_5.out).2.2); (case side4 => exact (Kd.R_reads' HO_5.out).2.1); rintro e w' ⟨rfl, ⟨nd, rfl⟩⟩))
         go_meet
         case rel => exact ⟨_, (!t340), (by first | rfl | (simp; done) | (simp [*]; done) | (rw [Int.tmod_eq_emod_of_nonneg (Int.natCast_nonneg _)]; done)), H', ⟨by have := HJ10.out; first | omega | exact Nat.le_refl _⟩, ⟨zR HO_5.out⟩, ⟨zR HO_8.out⟩, ⟨by (with_reducible repeat (first | apply Kd.R_alloc | apply Kd.R_drewN | apply Kd.R_drew)); exact Kd.R_mono HO_311003.out (fun _ hk => ⟨hk.1, hk.2.1⟩)⟩, ⟨by (with_reducible repeat (first | apply Kd.R_alloc | apply Kd.R_drewN | apply Kd.R_drew)); exact Kd.R_mono HO_318003.out (fun _ hk => ⟨hk.1.1, hk.1.2⟩)⟩, ⟨by (with_reducible repeat (first | apply Kd.R_alloc | apply Kd.R_drewN | apply Kd.R_drew)); exact Kd.R_mono HO_328003.out (fun _ hk => ⟨hk.1, hk.2.1⟩)⟩, ⟨zB BK293.out⟩, ⟨zB BK310.out⟩, ⟨zB BK317.out⟩, ⟨zB BK327.out⟩, ⟨zS HB.out⟩⟩
        ·replace c75 := Bool.eq_false_iff.mpr c75; subst c75
         have H1 : (laws_FnExactAutoTrim.j1 kj10 t307 t324 true a0_0 a0_1 a0_2 l0_3 t301 t302 t303 t304 t318 t319 t320 t321) = some r := by rw [if_neg (show ¬ (false = true) by decide)] at H; exact H
         clear H; have H := H1; clear H1; have H' := Aside0.mk H; clear H; have hnb87 := NB327_293.out; have hnc87 := NB293_327.out; have hnb88 := NB327_310.out; have hnc88 := NB310_327.out; have hnb89 := NB327_317.out; have hnc89 := NB317_327.out; have hcz90_0 : w72.cell? ⟨gb327, 0, none⟩ = some (.int .i64 t318) := b1 BK327 0; have hcz90_1 : w72.cell? ⟨gb327, 1, none⟩ = some (.int .i64 t319) := b1 BK327 1; have hcz90_2 : w72.cell? ⟨gb327, 2, none⟩ = some (.int .i64 t320) := b1 BK327 2; have hcz90_3 : w72.cell? ⟨gb327, 3, none⟩ = some (.slice Ao36 t321.length co36) := b1 BK327 3; have hfz90_0 := blk_frozen BK327.out 0; have hfz90_1 := blk_frozen BK327.out 1; have hfz90_2 := blk_frozen BK327.out 2; have hfz90_3 := blk_frozen BK327.out 3; have hnb91 := NB310_293.out; have hnc91 := NB293_310.out; have hnb92 := NB310_317.out; have hnc92 := NB317_310.out; have hcz93_0 : w72.cell? ⟨gb310, 0, none⟩ = some (.int .i64 t301) := b1 BK310 0; have hcz93_1 : w72.cell? ⟨gb310, 1, none⟩ = some (.int .i64 t302) := b1 BK310 1; have hcz93_2 : w72.cell? ⟨gb310, 2, none⟩ = some (.int .i64 t303) := b1 BK310 2; have hcz93_3 : w72.cell? ⟨gb310, 3, none⟩ = some (.slice Ao22 t304.length co22) := b1 BK310 3; have hfz93_0 := blk_frozen BK310.out 0; have hfz93_1 := blk_frozen BK310.out 1; have hfz93_2 := blk_frozen BK310.out 2; have hfz93_3 := blk_frozen BK310.out 3
         go_wp2_with (first | (go_at_call 16; (with_reducible refine (laws_eqAuto.calls kj10 t318 t319 t320 _ _ t321 t301 t302 t303 _ _ t304 false _ ?side1 ?side2 ?side3 ?side4 A74.out).mono ?_); (case side1 => exact zC (Kd.R_reads' HO_328003.out).2.2); (case side2 => exact (Kd.R_reads' HO_328003.out).2.1); (case side3 => exact zC (Kd.R_reads' HO_311003.out).2.2); (case side4 => exact (Kd.R_reads' HO_311003.out).2.1); rintro e w94 ⟨rfl, hb⟩; replace HO_5 := xR HO_5 hb; replace HO_8 := xR HO_8 hb; replace HO_311003 := xR HO_311003 hb; replace HO_318003 := xR HO_318003 hb; replace HO_328003 := xR HO_328003 hb; replace HO335 := xR HO335 hb; replace BK293 := xB BK293 hb; replace BK310 := xB BK310 hb; replace BK317 := xB BK317 hb; replace BK327 := xB BK327 hb; replace HB := xS HB hb; (try clear hb); (try clear hb2); (try clear hk); (try clear hi)))
         go_meet
         case rel => exact ⟨_, (true), (by first | rfl | (simp; done) | (simp [*]; done) | (rw [Int.tmod_eq_emod_of_nonneg (Int.natCast_nonneg _)]; done)), H', ⟨by have := HJ10.out; first | omega | exact Nat.le_refl _⟩, ⟨zR HO_5.out⟩, ⟨zR HO_8.out⟩, ⟨by (with_reducible repeat (first | apply Kd.R_alloc | apply Kd.R_drewN | apply Kd.R_drew)); exact Kd.R_mono HO_311003.out (fun _ hk => ⟨hk.1, hk.2.1⟩)⟩, ⟨by (with_reducible repeat (first | apply Kd.R_alloc | apply Kd.R_drewN | apply Kd.R_drew)); exact Kd.R_mono HO_318003.out (fun _ hk => ⟨hk.1.1, hk.1.2⟩)⟩, ⟨by (with_reducible repeat (first | apply Kd.R_alloc | apply Kd.R_drewN | apply Kd.R_drew)); exact Kd.R_mono HO_328003.out (fun _ hk => ⟨hk.1, hk.2.1⟩)⟩, ⟨zB BK293.out⟩, ⟨zB BK310.out⟩, ⟨zB BK317.out⟩, ⟨zB BK327.out⟩, ⟨zS HB.out⟩⟩
      case rest =>
       clear HC63
       try clear c1
       try clear c2
       try clear p2
       try clear c3
       try clear c3b0
       try clear c4
       try clear c5
       try clear c6
       try clear c7
       try clear c8
       try clear c9
       try clear c12
       try clear c16
       try clear c17
       try clear c19
       try clear c20
       try clear c21
       try clear c26
       try clear c27
       try clear c32
       try clear c33
       try clear c34
       try clear c38
       try clear c40
       try clear c41
       try clear c42
       try clear c44
       try clear c45
       try clear c46
       try clear c50
       try clear c51
       try clear c52
       try clear c54
       try clear c55
       try clear c58
       try clear c61
       try clear c68
       try clear c69
       try clear c70
       try clear c73
       try clear c73b0
       try clear c75
       try clear c77
       try clear c78
       try clear c79
       try clear c81
       try clear c82
       try clear c87
       try clear c88
       try clear c89
       try clear c91
       try clear c92
       try clear hcz13_0
       try clear hcz13_1
       try clear hcz13_2
       try clear hcz13_3
       try clear hcz15_0
       try clear hcz15_1
       try clear hcz15_2
       try clear hcz15_3
       try clear hcz21_0
       try clear hcz21_1
       try clear hcz21_2
       try clear hcz21_3
       try clear hcz23_0
       try clear hcz23_1
       try clear hcz23_2
       try clear hcz23_3
       try clear hcz28_0
       try clear hcz28_1
       try clear hcz28_2
       try clear hcz28_3
       try clear hcz35_0
       try clear hcz35_1
       try clear hcz35_2
       try clear hcz35_3
       try clear hcz43_0
       try clear hcz43_1
       try clear hcz43_2
       try clear hcz43_3
       try clear hcz46_0
       try clear hcz46_1
       try clear hcz46_2
       try clear hcz46_3
       try clear hcz53_0
       try clear hcz53_1
       try clear hcz53_2
       try clear hcz53_3
       try clear hcz56_0
       try clear hcz56_1
       try clear hcz56_2
       try clear hcz56_3
       try clear hcz5_0
       try clear hcz5_1
       try clear hcz5_2
       try clear hcz5_3
       try clear hcz71_0
       try clear hcz71_1
       try clear hcz71_2
       try clear hcz71_3
       try clear hcz80_0
       try clear hcz80_1
       try clear hcz80_2
       try clear hcz80_3
       try clear hcz83_0
       try clear hcz83_1
       try clear hcz83_2
       try clear hcz83_3
       try clear hcz90_0
       try clear hcz90_1
       try clear hcz90_2
       try clear hcz90_3
       try clear hcz93_0
       try clear hcz93_1
       try clear hcz93_2
       try clear hcz93_3
       try clear hfz13_0
       try clear hfz13_1
       try clear hfz13_2
       try clear hfz13_3
       try clear hfz15_0
       try clear hfz15_1
       try clear hfz15_2
       try clear hfz15_3
       try clear hfz21_0
       try clear hfz21_1
       try clear hfz21_2
       try clear hfz21_3
       try clear hfz23_0
       try clear hfz23_1
       try clear hfz23_2
       try clear hfz23_3
       try clear hfz28_0
       try clear hfz28_1
       try clear hfz28_2
       try clear hfz28_3
       try clear hfz35_0
       try clear hfz35_1
       try clear hfz35_2
       try clear hfz35_3
       try clear hfz43_0
       try clear hfz43_1
       try clear hfz43_2
       try clear hfz43_3
       try clear hfz46_0
       try clear hfz46_1
       try clear hfz46_2
       try clear hfz46_3
       try clear hfz53_0
       try clear hfz53_1
       try clear hfz53_2
       try clear hfz53_3
       try clear hfz56_0
       try clear hfz56_1
       try clear hfz56_2
       try clear hfz56_3
       try clear hfz5_0
       try clear hfz5_1
       try clear hfz5_2
       try clear hfz5_3
       try clear hfz71_0
       try clear hfz71_1
       try clear hfz71_2
       try clear hfz71_3
       try clear hfz80_0
       try clear hfz80_1
       try clear hfz80_2
       try clear hfz80_3
       try clear hfz83_0
       try clear hfz83_1
       try clear hfz83_2
       try clear hfz83_3
       try clear hfz90_0
       try clear hfz90_1
       try clear hfz90_2
       try clear hfz90_3
       try clear hfz93_0
       try clear hfz93_1
       try clear hfz93_2
       try clear hfz93_3
       try clear p2
       obtain ⟨kq, x63_62, rfl, HA, HJ62, HO_5, HO_8, HO_311003, HO_318003, HO_328003, BK293, BK310, BK317, BK327, HB⟩ := hcut; have hl318003_62 := (Kd.R_reads' HO_318003.out).1; rw [hl318003_62] at HO_318003
       (try simp only [hl318003_62])
       (try simp only [hl318003_62] at BK293)
       (try simp only [hl318003_62] at BK310)
       (try simp only [hl318003_62] at BK317)
       (try simp only [hl318003_62] at BK327)
       (try simp only [hl318003_62] at HO_5)
       (try simp only [hl318003_62] at HO_8)
       (try simp only [hl318003_62] at HO_311003)
       (try simp only [hl318003_62] at HO_328003)
       cases kq with
       | zero => exact absurd HA.out (by simp [laws_FnExactAutoTrim.j1])
       | succ kj62 =>
        have H := HA.out; clear HA; simp only [laws_FnExactAutoTrim.j1] at H
        by_cases c95 : x63_62 = true
        ·subst c95
         have H1 : (some false) = some r := by rw [if_pos rfl] at H; exact H
         clear H; have H := H1; clear H1; obtain rfl := Option.some.inj H
         go_wp2
         go_ret; exact ⟨by first | rfl | (simp [errW_none, errW_some] <;> rfl) | (simp [*, errW_none, errW_some] <;> rfl), by repeat (first | (with_reducible first | exact HB.out | apply below_alloc | apply pw_below_drewN | apply below_drew1 | refine below_set ?_ GE293.out | refine below_set ?_ GE310.out | refine below_set ?_ GE317.out | refine below_set ?_ GE327.out) | exact HB.out)⟩
        ·replace c95 := Bool.eq_false_iff.mpr c95; subst c95
         have H1 : ((laws_markAuto.f kj62 t318 t319 t320 t321 1).bind fun bt341 => ((laws_markIntS.f kj62 t324 bt341.1).bind fun bt343 => ((laws_heldAuto.f kj62 t318 t319 t320 bt341.2 1).bind fun t345 => (if t345 < 0 then (some false) else ((laws_heldIntS.f kj62 bt343.2 t345).bind fun t346 => (if t346 < 0 then (some false) else (if t346 = bt343.1 then ((laws_toAuto.f kj62 a0_0 a0_1 a0_2 l0_3).bind fun bt347 => ((impl_AutoTrim.f kj62 bt347.1 bt347.2.1 bt347.2.2.1 bt347.2.2.2).bind fun bt353 => ((laws_eqAuto.f kj62 bt353.1 bt353.2.1 bt353.2.2.1 bt353.2.2.2.1 t301 t302 t303 t304).bind fun t363 => (if t363 = true then ((laws_eqIntS.f kj62 bt353.2.2.2.2 t307).bind fun t364 => (laws_FnExactAutoTrim.j2 kj62 bt343.2 bt343.1 (!t364) t318 t319 t320 bt341.2)) else (laws_FnExactAutoTrim.j2 kj62 bt343.2 bt343.1 true t318 t319 t320 bt341.2))))) else (some false)))))))) = some r := by rw [if_neg (show ¬ (false = true) by decide)] at H; exact H
         clear H; have H := H1; clear H1; replace H := Option.bind_eq_some_iff.mp H; obtain ⟨⟨t341, t342⟩, A960, H⟩ := H; replace H : ((laws_markIntS.f kj62 t324 t341).bind fun bt343 => ((laws_heldAuto.f kj62 t318 t319 t320 t342 1).bind fun t345 => (if t345 < 0 then (some false) else ((laws_heldIntS.f kj62 bt343.2 t345).bind fun t346 => (if t346 < 0 then (some false) else (if t346 = bt343.1 then ((laws_toAuto.f kj62 a0_0 a0_1 a0_2 l0_3).bind fun bt347 => ((impl_AutoTrim.f kj62 bt347.1 bt347.2.1 bt347.2.2.1 bt347.2.2.2).bind fun bt353 => ((laws_eqAuto.f kj62 bt353.1 bt353.2.1 bt353.2.2.1 bt353.2.2.2.1 t301 t302 t303 t304).bind fun t363 => (if t363 = true then ((laws_eqIntS.f kj62 bt353.2.2.2.2 t307).bind fun t364 => (laws_FnExactAutoTrim.j2 kj62 bt343.2 bt343.1 (!t364) t318 t319 t320 t342)) else (laws_FnExactAutoTrim.j2 kj62 bt343.2 bt343.1 true t318 t319 t320 t342))))) else (some false))))))) = some r := H; have A96 := Aside0.mk A960; clear A960; replace H := Option.bind_eq_some_iff.mp H; obtain ⟨⟨t343, t344⟩, A970, H⟩ := H; replace H : ((laws_heldAuto.f kj62 t318 t319 t320 t342 1).bind fun t345 => (if t345 < 0 then (some false) else ((laws_heldIntS.f kj62 t344 t345).bind fun t346 => (if t346 < 0 then (some false) else (if t346 = t343 then ((laws_toAuto.f kj62 a0_0 a0_1 a0_2 l0_3).bind fun bt347 => ((impl_AutoTrim.f kj62 bt347.1 bt347.2.1 bt347.2.2.1 bt347.2.2.2).bind fun bt353 => ((laws_eqAuto.f kj62 bt353.1 bt353.2.1 bt353.2.2.1 bt353.2.2.2.1 t301 t302 t303 t304).bind fun t363 => (if t363 = true then ((laws_eqIntS.f kj62 bt353.2.2.2.2 t307).bind fun t364 => (laws_FnExactAutoTrim.j2 kj62 t344 t343 (!t364) t318 t319 t320 t342)) else (laws_FnExactAutoTrim.j2 kj62 t344 t343 true t318 t319 t320 t342))))) else (some false)))))) = some r := H; have A97 := Aside0.mk A970; clear A970; replace H := Option.bind_eq_some_iff.mp H; obtain ⟨t345, A980, H⟩ := H; replace H : (if t345 < 0 then (some false) else ((laws_heldIntS.f kj62 t344 t345).bind fun t346 => (if t346 < 0 then (some false) else (if t346 = t343 then ((laws_toAuto.f kj62 a0_0 a0_1 a0_2 l0_3).bind fun bt347 => ((impl_AutoTrim.f kj62 bt347.1 bt347.2.1 bt347.2.2.1 bt347.2.2.2).bind fun bt353 => ((laws_eqAuto.f kj62 bt353.1 bt353.2.1 bt353.2.2.1 bt353.2.2.2.1 t301 t302 t303 t304).bind fun t363 => (if t363 = true then ((laws_eqIntS.f kj62 bt353.2.2.2.2 t307).bind fun t364 => (laws_FnExactAutoTrim.j2 kj62 t344 t343 (!t364) t318 t319 t320 t342)) else (laws_FnExactAutoTrim.j2 kj62 t344 t343 true t318 t319 t320 t342))))) else (some false))))) = some r := H; have A98 := Aside0.mk A980; clear A980
         by_cases c99 : t345 < 0
         ·rw [if_pos c99] at H; have c99b0 : decide (t345 < 0) = true := decide_eq_true c99; clear c99; obtain rfl := Option.some.inj H; have hnb100 := NB327_293.out; have hnc100 := NB293_327.out; have hnb101 := NB327_310.out; have hnc101 := NB310_327.out; have hnb102 := NB327_317.out; have hnc102 := NB317_327.out; have hcz103_0 : wc.cell? ⟨gb327, 0, none⟩ = some (.int .i64 t318) := b1 BK327 0; have hcz103_1 : wc.cell? ⟨gb327, 1, none⟩ = some (.int .i64 t319) := b1 BK327 1; have hcz103_2 : wc.cell? ⟨gb327, 2, none⟩ = some (.int .i64 t320) := b1 BK327 2; have hcz103_3 : wc.cell? ⟨gb327, 3, none⟩ = some (.slice Ao36 t321.length co36) := b1 BK327 3; have hfz103_0 := blk_frozen BK327.out 0; have hfz103_1 := blk_frozen BK327.out 1; have hfz103_2 := blk_frozen BK327.out 2; have hfz103_3 := blk_frozen BK327.out 3
          go_wp2_with (first | ((with_reducible refine gate_callee (f := 17) rfl ?_); refine goesL_ (some 66) rfl rfl Try.func17 (by kernel_rfl) rfl #[.agg #[.int .i64 t318, .int .i64 t319, .int .i64 t320, .slice Ao36 t321.length co36], .int .i64 1] rfl (by (try simp only [m3]); first | done | rfl | (simp only [d2]; rfl)) ?_; (with_reducible refine (laws_markAuto.calls kj62 t318 t319 t320 (fun k_ => some k_ = (.slice Ao36 t321.length co36 : Value).ownBlock) (.slice Ao36 t321.length co36) t321 1 t341 t342 w _ ?side1 ?side2 A96.out).mono ?_); (case side1 => repeat (first | (with_reducible first | exact HB.out | apply below_alloc | apply pw_below_drewN | apply below_drew1 | refine below_set ?_ GE293.out | refine below_set ?_ GE310.out | refine below_set ?_ GE317.out | refine below_set ?_ GE327.out) | exact HB.out)); (case side2 => exact Kd.R_tight rfl HO_328003.out); rintro e w104 ⟨rfl, hy0, hb, hkp⟩; refine ⟨_, rfl, ?_⟩; replace HO_5 := Aside0.mk (Kd.R_mono (ok' := fun k_ => some k_ ≠ (v325 : Value).ownBlock) (Kd.R_keptB ((Kd.R_apart' HO_5.out (Kd.R_typed HO_328003.out) (by decide))) hkp (fun k_ hk_ hs_ => (hk_.2) hs_)) (fun k_ hk_ => hk_.1.1)); replace HO_8 := Aside0.mk (Kd.R_mono (ok' := fun k_ => some k_ ≠ (v308 : Value).ownBlock) (Kd.R_keptB ((Kd.R_apart' HO_8.out (Kd.R_typed HO_328003.out) (by decide))) hkp (fun k_ hk_ hs_ => (hk_.2) hs_)) (fun k_ hk_ => hk_.1.1)); replace HO_311003 := Aside0.mk (Kd.R_mono (ok' := fun k_ => some k_ ≠ (.slice Ao29 t338.length co29 : Value).ownBlock ∧ some k_ ≠ (.slice Ao36 t321.length co36 : Value).ownBlock) (Kd.R_keptB (HO_311003.out) hkp (fun k_ hk_ hs_ => (hk_.2) hs_)) (fun k_ hk_ => ⟨hk_.1.1, hk_.1.2⟩)); replace HO_318003 := Aside0.mk (Kd.R_mono (ok' := fun k_ => some k_ ≠ (.slice Ao22 t304.length co22 : Value).ownBlock ∧ some k_ ≠ (.slice Ao36 t321.length co36 : Value).ownBlock) (Kd.R_keptB (HO_318003.out) hkp (fun k_ hk_ hs_ => (hk_.2) hs_)) (fun k_ hk_ => ⟨hk_.1.1, hk_.1.2⟩)); replace BK293 := Aside0.mk (blk_kept (zB BK293.out) hkp (fun hs_ => (fun e_ => (Kd.R_ne HO_328003.out BK293.out (by decide)) e_) hs_)); replace BK310 := Aside0.mk (blk_kept (zB BK310.out) hkp (fun hs_ => (fun e_ => (Kd.R_ne HO_328003.out BK310.out (by decide)) e_) hs_)); replace BK317 := Aside0.mk (blk_kept (zB BK317.out) hkp (fun hs_ => (fun e_ => (Kd.R_ne HO_328003.out BK317.out (by decide)) e_) hs_)); replace BK327 := Aside0.mk (blk_kept (zB BK327.out) hkp (fun hs_ => (fun e_ => (Kd.R_ne HO_328003.out BK327.out (by decide)) e_) hs_)); replace HO_328003 := Aside0.mk (Kd.R_reok rfl hy0 (fun k_ e_ => HO_328003.out.1 k_ e_)); replace HB := Aside0.mk (hb); (try clear hb); (try clear hkp); (try clear hy0); obtain ⟨Ao105, co105, eo105⟩ := Kd.R_slice HO_8.out; subst eo105) | ((with_reducible refine gate_callee (f := 48) rfl ?_); refine goesL_ (some 69) rfl rfl Try.func48 (by kernel_rfl) rfl #[.slice Ao105 t324.length co105, .int .i64 t341] rfl (by (try simp only [m3]); first | done | rfl | (simp only [d2]; rfl)) ?_; (with_reducible refine (laws_markIntS.calls kj62 (fun k_ => some k_ = (.slice Ao105 t324.length co105 : Value).ownBlock) (.slice Ao105 t324.length co105) t324 t341 t343 t344 w _ ?side1 ?side2 A97.out).mono ?_); (case side1 => repeat (first | (with_reducible first | exact HB.out | apply below_alloc | apply pw_below_drewN | apply below_drew1 | refine below_set ?_ GE293.out | refine below_set ?_ GE310.out | refine below_set ?_ GE317.out | refine below_set ?_ GE327.out) | exact HB.out)); (case side2 => exact Kd.R_tight rfl HO_8.out); rintro e w106 ⟨rfl, hy0, hb, hkp⟩; refine ⟨_, rfl, ?_⟩; replace HO_5 := Aside0.mk (Kd.R_mono (ok' := fun k_ => some k_ ≠ (.slice Ao105 t324.length co105 : Value).ownBlock) (Kd.R_keptB (HO_5.out) hkp (fun k_ hk_ hs_ => (hk_) hs_)) (fun k_ hk_ => hk_.1)); replace HO_311003 := Aside0.mk (Kd.R_mono (ok' := fun k_ => some k_ ≠ (.slice Ao29 t338.length co29 : Value).ownBlock ∧ some k_ ≠ (.slice Ao36 t321.length co36 : Value).ownBlock) (Kd.R_keptB ((Kd.R_apart' HO_311003.out (Kd.R_typed HO_8.out) (by decide))) hkp (fun k_ hk_ hs_ => (hk_.2) hs_)) (fun k_ hk_ => ⟨hk_.1.1.1, hk_.1.1.2⟩)); replace HO_318003 := Aside0.mk (Kd.R_mono (ok' := fun k_ => some k_ ≠ (.slice Ao22 t304.length co22 : Value).ownBlock ∧ some k_ ≠ (.slice Ao36 t321.length co36 : Value).ownBlock) (Kd.R_keptB ((Kd.R_apart' HO_318003.out (Kd.R_typed HO_8.out) (by decide))) hkp (fun k_ hk_ hs_ => (hk_.2) hs_)) (fun k_ hk_ => ⟨hk_.1.1.1, hk_.1.1.2⟩)); replace HO_328003 := Aside0.mk (Kd.R_mono (ok' := fun k_ => some k_ ≠ (.slice Ao22 t304.length co22 : Value).ownBlock ∧ some k_ ≠ (.slice Ao29 t338.length co29 : Value).ownBlock) (Kd.R_keptB ((Kd.R_apart' HO_328003.out (Kd.R_typed HO_8.out) (by decide))) hkp (fun k_ hk_ hs_ => (hk_.2) hs_)) (fun k_ hk_ => ⟨hk_.1.1.1, hk_.1.1.2⟩)); replace BK293 := Aside0.mk (blk_kept (zB BK293.out) hkp (fun hs_ => (fun e_ => (Kd.R_ne HO_8.out BK293.out (by decide)) e_) hs_)); replace BK310 := Aside0.mk (blk_kept (zB BK310.out) hkp (fun hs_ => (fun e_ => (Kd.R_ne HO_8.out BK310.out (by decide)) e_) hs_)); replace BK317 := Aside0.mk (blk_kept (zB BK317.out) hkp (fun hs_ => (fun e_ => (Kd.R_ne HO_8.out BK317.out (by decide)) e_) hs_)); replace BK327 := Aside0.mk (blk_kept (zB BK327.out) hkp (fun hs_ => (fun e_ => (Kd.R_ne HO_8.out BK327.out (by decide)) e_) hs_)); replace HO_8 := Aside0.mk (Kd.R_reok rfl hy0 (fun k_ e_ => HO_8.out.1 k_ e_)); replace HB := Aside0.mk (hb); (try clear hb); (try clear hkp); (try clear hy0); have hcz107_0 : w106.cell? ⟨gb327, 0, none⟩ = some (.int .i64 t318) := b1 BK327 0; have hcz107_1 : w106.cell? ⟨gb327, 1, none⟩ = some (.int .i64 t319) := b1 BK327 1; have hcz107_2 : w106.cell? ⟨gb327, 2, none⟩ = some (.int .i64 t320) := b1 BK327 2; have hcz107_3 : w106.cell? ⟨gb327, 3, none⟩ = some (.slice Ao36 t321.length co36) := b1 BK327 3; have hfz107_0 := blk_frozen BK327.out 0; have hfz107_1 := blk_frozen BK327.out 1; have hfz107_2 := blk_frozen BK327.out 2; have hfz107_3 := blk_frozen BK327.out 3) | ((with_reducible refine gate_callee (f := 18) rfl ?_); refine goesL_ (some 72) rfl rfl Try.func18 (by kernel_rfl) rfl #[.agg #[.int .i64 t318, .int .i64 t319, .int .i64 t320, .slice Ao36 t342.length co36], .int .i64 1] rfl (by (try simp only [m3]); first | done | (rw [show t342.length = t321.length from (Kd.R_reads' HO_328003.out).1.symm] <;> rfl) | rfl | (simp only [d2]; rfl)) ?_; (with_reducible refine (laws_heldAuto.calls kj62 t318 t319 t320 _ _ t342 1 t345 _ ?side1 ?side2 A98.out).mono ?_); (case side1 => exact zC (Kd.R_reads' HO_328003.out).2.2); (case side2 => rw [show t342.length = t321.length from (Kd.R_reads' HO_328003.out).1.symm]; exact (Kd.R_reads' HO_328003.out).2.1); rintro e w108 ⟨rfl, hb⟩; refine ⟨_, rfl, ?_⟩; replace HO_5 := xR HO_5 hb; replace HO_8 := xR HO_8 hb; replace HO_311003 := xR HO_311003 hb; replace HO_318003 := xR HO_318003 hb; replace HO_328003 := xR HO_328003 hb; replace BK293 := xB BK293 hb; replace BK310 := xB BK310 hb; replace BK317 := xB BK317 hb; replace BK327 := xB BK327 hb; replace HB := xS HB hb; (try clear hb); (try clear hb2); (try clear hk); (try clear hi)))
          go_ret; exact ⟨by first | rfl | (simp [errW_none, errW_some] <;> rfl) | (simp [*, errW_none, errW_some] <;> rfl), by repeat (first | (with_reducible first | exact HB.out | apply below_alloc | apply pw_below_drewN | apply below_drew1 | refine below_set ?_ GE293.out | refine below_set ?_ GE310.out | refine below_set ?_ GE317.out | refine below_set ?_ GE327.out) | exact HB.out)⟩
         ·rw [if_neg c99] at H; have c99b0 : decide (t345 < 0) = false := decide_eq_false c99; clear c99; replace H := Option.bind_eq_some_iff.mp H; obtain ⟨t346, A1090, H⟩ := H; replace H : (if t346 < 0 then (some false) else (if t346 = t343 then ((laws_toAuto.f kj62 a0_0 a0_1 a0_2 l0_3).bind fun bt347 => ((impl_AutoTrim.f kj62 bt347.1 bt347.2.1 bt347.2.2.1 bt347.2.2.2).bind fun bt353 => ((laws_eqAuto.f kj62 bt353.1 bt353.2.1 bt353.2.2.1 bt353.2.2.2.1 t301 t302 t303 t304).bind fun t363 => (if t363 = true then ((laws_eqIntS.f kj62 bt353.2.2.2.2 t307).bind fun t364 => (laws_FnExactAutoTrim.j2 kj62 t344 t343 (!t364) t318 t319 t320 t342)) else (laws_FnExactAutoTrim.j2 kj62 t344 t343 true t318 t319 t320 t342))))) else (some false))) = some r := H; have A109 := Aside0.mk A1090; clear A1090
          by_cases c110 : t346 < 0
          ·rw [if_pos c110] at H; have c110b0 : decide (t346 < 0) = true := decide_eq_true c110; clear c110; obtain rfl := Option.some.inj H; have hnb111 := NB327_293.out; have hnc111 := NB293_327.out; have hnb112 := NB327_310.out; have hnc112 := NB310_327.out; have hnb113 := NB327_317.out; have hnc113 := NB317_327.out; have hcz114_0 : wc.cell? ⟨gb327, 0, none⟩ = some (.int .i64 t318) := b1 BK327 0; have hcz114_1 : wc.cell? ⟨gb327, 1, none⟩ = some (.int .i64 t319) := b1 BK327 1; have hcz114_2 : wc.cell? ⟨gb327, 2, none⟩ = some (.int .i64 t320) := b1 BK327 2; have hcz114_3 : wc.cell? ⟨gb327, 3, none⟩ = some (.slice Ao36 t321.length co36) := b1 BK327 3; have hfz114_0 := blk_frozen BK327.out 0; have hfz114_1 := blk_frozen BK327.out 1; have hfz114_2 := blk_frozen BK327.out 2; have hfz114_3 := blk_frozen BK327.out 3
           go_wp2_with (first | ((with_reducible refine gate_callee (f := 17) rfl ?_); refine goesL_ (some 66) rfl rfl Try.func17 (by kernel_rfl) rfl #[.agg #[.int .i64 t318, .int .i64 t319, .int .i64 t320, .slice Ao36 t321.length co36], .int .i64 1] rfl (by (try simp only [m3]); first | done | rfl | (simp only [d2]; rfl)) ?_; (with_reducible refine (laws_markAuto.calls kj62 t318 t319 t320 (fun k_ => some k_ = (.slice Ao36 t321.length co36 : Value).ownBlock) (.slice Ao36 t321.length co36) t321 1 t341 t342 w _ ?side1 ?side2 A96.out).mono ?_); (case side1 => repeat (first | (with_reducible first | exact HB.out | apply below_alloc | apply pw_below_drewN | apply below_drew1 | refine below_set ?_ GE293.out | refine below_set ?_ GE310.out | refine below_set ?_ GE317.out | refine below_set ?_ GE327.out) | exact HB.out)); (case side2 => exact Kd.R_tight rfl HO_328003.out); rintro e w115 ⟨rfl, hy0, hb, hkp⟩; refine ⟨_, rfl, ?_⟩; replace HO_5 := Aside0.mk (Kd.R_mono (ok' := fun k_ => some k_ ≠ (v325 : Value).ownBlock) (Kd.R_keptB ((Kd.R_apart' HO_5.out (Kd.R_typed HO_328003.out) (by decide))) hkp (fun k_ hk_ hs_ => (hk_.2) hs_)) (fun k_ hk_ => hk_.1.1)); replace HO_8 := Aside0.mk (Kd.R_mono (ok' := fun k_ => some k_ ≠ (v308 : Value).ownBlock) (Kd.R_keptB ((Kd.R_apart' HO_8.out (Kd.R_typed HO_328003.out) (by decide))) hkp (fun k_ hk_ hs_ => (hk_.2) hs_)) (fun k_ hk_ => hk_.1.1)); replace HO_311003 := Aside0.mk (Kd.R_mono (ok' := fun k_ => some k_ ≠ (.slice Ao29 t338.length co29 : Value).ownBlock ∧ some k_ ≠ (.slice Ao36 t321.length co36 : Value).ownBlock) (Kd.R_keptB (HO_311003.out) hkp (fun k_ hk_ hs_ => (hk_.2) hs_)) (fun k_ hk_ => ⟨hk_.1.1, hk_.1.2⟩)); replace HO_318003 := Aside0.mk (Kd.R_mono (ok' := fun k_ => some k_ ≠ (.slice Ao22 t304.length co22 : Value).ownBlock ∧ some k_ ≠ (.slice Ao36 t321.length co36 : Value).ownBlock) (Kd.R_keptB (HO_318003.out) hkp (fun k_ hk_ hs_ => (hk_.2) hs_)) (fun k_ hk_ => ⟨hk_.1.1, hk_.1.2⟩)); replace BK293 := Aside0.mk (blk_kept (zB BK293.out) hkp (fun hs_ => (fun e_ => (Kd.R_ne HO_328003.out BK293.out (by decide)) e_) hs_)); replace BK310 := Aside0.mk (blk_kept (zB BK310.out) hkp (fun hs_ => (fun e_ => (Kd.R_ne HO_328003.out BK310.out (by decide)) e_) hs_)); replace BK317 := Aside0.mk (blk_kept (zB BK317.out) hkp (fun hs_ => (fun e_ => (Kd.R_ne HO_328003.out BK317.out (by decide)) e_) hs_)); replace BK327 := Aside0.mk (blk_kept (zB BK327.out) hkp (fun hs_ => (fun e_ => (Kd.R_ne HO_328003.out BK327.out (by decide)) e_) hs_)); replace HO_328003 := Aside0.mk (Kd.R_reok rfl hy0 (fun k_ e_ => HO_328003.out.1 k_ e_)); replace HB := Aside0.mk (hb); (try clear hb); (try clear hkp); (try clear hy0); obtain ⟨Ao116, co116, eo116⟩ := Kd.R_slice HO_8.out; subst eo116) | ((with_reducible refine gate_callee (f := 48) rfl ?_); refine goesL_ (some 69) rfl rfl Try.func48 (by kernel_rfl) rfl #[.slice Ao116 t324.length co116, .int .i64 t341] rfl (by (try simp only [m3]); first | done | rfl | (simp only [d2]; rfl)) ?_; (with_reducible refine (laws_markIntS.calls kj62 (fun k_ => some k_ = (.slice Ao116 t324.length co116 : Value).ownBlock) (.slice Ao116 t324.length co116) t324 t341 t343 t344 w _ ?side1 ?side2 A97.out).mono ?_); (case side1 => repeat (first | (with_reducible first | exact HB.out | apply below_alloc | apply pw_below_drewN | apply below_drew1 | refine below_set ?_ GE293.out | refine below_set ?_ GE310.out | refine below_set ?_ GE317.out | refine below_set ?_ GE327.out) | exact HB.out)); (case side2 => exact Kd.R_tight rfl HO_8.out); rintro e w117 ⟨rfl, hy0, hb, hkp⟩; refine ⟨_, rfl, ?_⟩; replace HO_5 := Aside0.mk (Kd.R_mono (ok' := fun k_ => some k_ ≠ (.slice Ao116 t324.length co116 : Value).ownBlock) (Kd.R_keptB (HO_5.out) hkp (fun k_ hk_ hs_ => (hk_) hs_)) (fun k_ hk_ => hk_.1)); replace HO_311003 := Aside0.mk (Kd.R_mono (ok' := fun k_ => some k_ ≠ (.slice Ao29 t338.length co29 : Value).ownBlock ∧ some k_ ≠ (.slice Ao36 t321.length co36 : Value).ownBlock) (Kd.R_keptB ((Kd.R_apart' HO_311003.out (Kd.R_typed HO_8.out) (by decide))) hkp (fun k_ hk_ hs_ => (hk_.2) hs_)) (fun k_ hk_ => ⟨hk_.1.1.1, hk_.1.1.2⟩)); replace HO_318003 := Aside0.mk (Kd.R_mono (ok' := fun k_ => some k_ ≠ (.slice Ao22 t304.length co22 : Value).ownBlock ∧ some k_ ≠ (.slice Ao36 t321.length co36 : Value).ownBlock) (Kd.R_keptB ((Kd.R_apart' HO_318003.out (Kd.R_typed HO_8.out) (by decide))) hkp (fun k_ hk_ hs_ => (hk_.2) hs_)) (fun k_ hk_ => ⟨hk_.1.1.1, hk_.1.1.2⟩)); replace HO_328003 := Aside0.mk (Kd.R_mono (ok' := fun k_ => some k_ ≠ (.slice Ao22 t304.length co22 : Value).ownBlock ∧ some k_ ≠ (.slice Ao29 t338.length co29 : Value).ownBlock) (Kd.R_keptB ((Kd.R_apart' HO_328003.out (Kd.R_typed HO_8.out) (by decide))) hkp (fun k_ hk_ hs_ => (hk_.2) hs_)) (fun k_ hk_ => ⟨hk_.1.1.1, hk_.1.1.2⟩)); replace BK293 := Aside0.mk (blk_kept (zB BK293.out) hkp (fun hs_ => (fun e_ => (Kd.R_ne HO_8.out BK293.out (by decide)) e_) hs_)); replace BK310 := Aside0.mk (blk_kept (zB BK310.out) hkp (fun hs_ => (fun e_ => (Kd.R_ne HO_8.out BK310.out (by decide)) e_) hs_)); replace BK317 := Aside0.mk (blk_kept (zB BK317.out) hkp (fun hs_ => (fun e_ => (Kd.R_ne HO_8.out BK317.out (by decide)) e_) hs_)); replace BK327 := Aside0.mk (blk_kept (zB BK327.out) hkp (fun hs_ => (fun e_ => (Kd.R_ne HO_8.out BK327.out (by decide)) e_) hs_)); replace HO_8 := Aside0.mk (Kd.R_reok rfl hy0 (fun k_ e_ => HO_8.out.1 k_ e_)); replace HB := Aside0.mk (hb); (try clear hb); (try clear hkp); (try clear hy0); have hcz118_0 : w117.cell? ⟨gb327, 0, none⟩ = some (.int .i64 t318) := b1 BK327 0; have hcz118_1 : w117.cell? ⟨gb327, 1, none⟩ = some (.int .i64 t319) := b1 BK327 1; have hcz118_2 : w117.cell? ⟨gb327, 2, none⟩ = some (.int .i64 t320) := b1 BK327 2; have hcz118_3 : w117.cell? ⟨gb327, 3, none⟩ = some (.slice Ao36 t321.length co36) := b1 BK327 3; have hfz118_0 := blk_frozen BK327.out 0; have hfz118_1 := blk_frozen BK327.out 1; have hfz118_2 := blk_frozen BK327.out 2; have hfz118_3 := blk_frozen BK327.out 3) | ((with_reducible refine gate_callee (f := 18) rfl ?_); refine goesL_ (some 72) rfl rfl Try.func18 (by kernel_rfl) rfl #[.agg #[.int .i64 t318, .int .i64 t319, .int .i64 t320, .slice Ao36 t342.length co36], .int .i64 1] rfl (by (try simp only [m3]); first | done | (rw [show t342.length = t321.length from (Kd.R_reads' HO_328003.out).1.symm] <;> rfl) | rfl | (simp only [d2]; rfl)) ?_; (with_reducible refine (laws_heldAuto.calls kj62 t318 t319 t320 _ _ t342 1 t345 _ ?side1 ?side2 A98.out).mono ?_); (case side1 => exact zC (Kd.R_reads' HO_328003.out).2.2); (case side2 => rw [show t342.length = t321.length from (Kd.R_reads' HO_328003.out).1.symm]; exact (Kd.R_reads' HO_328003.out).2.1); rintro e w119 ⟨rfl, hb⟩; refine ⟨_, rfl, ?_⟩; replace HO_5 := xR HO_5 hb; replace HO_8 := xR HO_8 hb; replace HO_311003 := xR HO_311003 hb; replace HO_318003 := xR HO_318003 hb; replace HO_328003 := xR HO_328003 hb; replace BK293 := xB BK293 hb; replace BK310 := xB BK310 hb; replace BK317 := xB BK317 hb; replace BK327 := xB BK327 hb; replace HB := xS HB hb; (try clear hb); (try clear hb2); (try clear hk); (try clear hi)) | ((with_reducible refine gate_callee (f := 49) rfl ?_); refine goesL_ (some 77) rfl rfl Try.func49 (by kernel_rfl) rfl #[.slice Ao116 t344.length co116, .int .i64 t345] rfl (by (try simp only [m3]); first | done | (rw [show t344.length = t324.length from (Kd.R_reads' HO_8.out).1.symm] <;> rfl) | rfl | (simp only [d2]; rfl)) ?_; (with_reducible refine (laws_heldIntS.calls kj62 _ _ t344 t345 t346 _ ?side1 ?side2 A109.out).mono ?_); (case side1 => exact zC (Kd.R_reads' HO_8.out).2.2); (case side2 => rw [show t344.length = t324.length from (Kd.R_reads' HO_8.out).1.symm]; exact (Kd.R_reads' HO_8.out).2.1); rintro e w' ⟨rfl, ⟨nd, rfl⟩⟩; refine ⟨_, rfl, ?_⟩))
           go_ret; exact ⟨by first | rfl | (simp [errW_none, errW_some] <;> rfl) | (simp [*, errW_none, errW_some] <;> rfl), by repeat (first | (with_reducible first | exact HB.out | apply below_alloc | apply pw_below_drewN | apply below_drew1 | refine below_set ?_ GE293.out | refine below_set ?_ GE310.out | refine below_set ?_ GE317.out | refine below_set ?_ GE327.out) | exact HB.out)⟩
          ·rw [if_neg c110] at H; have c110b0 : decide (t346 < 0) = false := decide_eq_false c110; clear c110
           by_cases c120 : t346 = t343
           ·rw [if_pos c120] at H; have c120b0 : (t346 == t343) = true := beq_iff_eq.mpr c120; have c120b1 : (t346 != t343) = false := bne_eq_false_iff_eq.mpr c120; clear c120; replace H := Option.bind_eq_some_iff.mp H; obtain ⟨⟨t347, t348, t349, t350⟩, A1210, H⟩ := H; replace H : ((impl_AutoTrim.f kj62 t347 t348 t349 t350).bind fun bt353 => ((laws_eqAuto.f kj62 bt353.1 bt353.2.1 bt353.2.2.1 bt353.2.2.2.1 t301 t302 t303 t304).bind fun t363 => (if t363 = true then ((laws_eqIntS.f kj62 bt353.2.2.2.2 t307).bind fun t364 => (laws_FnExactAutoTrim.j2 kj62 t344 t343 (!t364) t318 t319 t320 t342)) else (laws_FnExactAutoTrim.j2 kj62 t344 t343 true t318 t319 t320 t342)))) = some r := H; have A121 := Aside0.mk A1210; clear A1210; replace H := Option.bind_eq_some_iff.mp H; obtain ⟨⟨t353, t354, t355, t356, t359⟩, A1220, H⟩ := H; replace H : ((laws_eqAuto.f kj62 t353 t354 t355 t356 t301 t302 t303 t304).bind fun t363 => (if t363 = true then ((laws_eqIntS.f kj62 t359 t307).bind fun t364 => (laws_FnExactAutoTrim.j2 kj62 t344 t343 (!t364) t318 t319 t320 t342)) else (laws_FnExactAutoTrim.j2 kj62 t344 t343 true t318 t319 t320 t342))) = some r := H; have A122 := Aside0.mk A1220; clear A1220; have HC123 := Aside0.mk H; clear H; have hnb124 := NB327_293.out; have hnc124 := NB293_327.out; have hnb125 := NB327_310.out; have hnc125 := NB310_327.out; have hnb126 := NB327_317.out; have hnc126 := NB317_327.out; have hcz127_0 : wc.cell? ⟨gb327, 0, none⟩ = some (.int .i64 t318) := b1 BK327 0; have hcz127_1 : wc.cell? ⟨gb327, 1, none⟩ = some (.int .i64 t319) := b1 BK327 1; have hcz127_2 : wc.cell? ⟨gb327, 2, none⟩ = some (.int .i64 t320) := b1 BK327 2; have hcz127_3 : wc.cell? ⟨gb327, 3, none⟩ = some (.slice Ao36 t321.length co36) := b1 BK327 3; have hfz127_0 := blk_frozen BK327.out 0; have hfz127_1 := blk_frozen BK327.out 1; have hfz127_2 := blk_frozen BK327.out 2; have hfz127_3 := blk_frozen BK327.out 3
            go_upto_region 29 with (first | ((with_reducible refine gate_callee (f := 17) rfl ?_); refine goesL_ (some 66) rfl rfl Try.func17 (by kernel_rfl) rfl #[.agg #[.int .i64 t318, .int .i64 t319, .int .i64 t320, .slice Ao36 t321.length co36], .int .i64 1] rfl (by (try simp only [m3]); first | done | rfl | (simp only [d2]; rfl)) ?_; (with_reducible refine (laws_markAuto.calls kj62 t318 t319 t320 (fun k_ => some k_ = (.slice Ao36 t321.length co36 : Value).ownBlock) (.slice Ao36 t321.length co36) t321 1 t341 t342 w _ ?side1 ?side2 A96.out).mono ?_); (case side1 => repeat (first | (with_reducible first | exact HB.out | apply below_alloc | apply pw_below_drewN | apply below_drew1 | refine below_set ?_ GE293.out | refine below_set ?_ GE310.out | refine below_set ?_ GE317.out | refine below_set ?_ GE327.out) | exact HB.out)); (case side2 => exact Kd.R_tight rfl HO_328003.out); rintro e w128 ⟨rfl, hy0, hb, hkp⟩; refine ⟨_, rfl, ?_⟩; replace HO_5 := Aside0.mk (Kd.R_mono (ok' := fun k_ => some k_ ≠ (v325 : Value).ownBlock) (Kd.R_keptB ((Kd.R_apart' HO_5.out (Kd.R_typed HO_328003.out) (by decide))) hkp (fun k_ hk_ hs_ => (hk_.2) hs_)) (fun k_ hk_ => hk_.1.1)); replace HO_8 := Aside0.mk (Kd.R_mono (ok' := fun k_ => some k_ ≠ (v308 : Value).ownBlock) (Kd.R_keptB ((Kd.R_apart' HO_8.out (Kd.R_typed HO_328003.out) (by decide))) hkp (fun k_ hk_ hs_ => (hk_.2) hs_)) (fun k_ hk_ => hk_.1.1)); replace HO_311003 := Aside0.mk (Kd.R_mono (ok' := fun k_ => some k_ ≠ (.slice Ao29 t338.length co29 : Value).ownBlock ∧ some k_ ≠ (.slice Ao36 t321.length co36 : Value).ownBlock) (Kd.R_keptB (HO_311003.out) hkp (fun k_ hk_ hs_ => (hk_.2) hs_)) (fun k_ hk_ => ⟨hk_.1.1, hk_.1.2⟩)); replace HO_318003 := Aside0.mk (Kd.R_mono (ok' := fun k_ => some k_ ≠ (.slice Ao22 t304.length co22 : Value).ownBlock ∧ some k_ ≠ (.slice Ao36 t321.length co36 : Value).ownBlock) (Kd.R_keptB (HO_318003.out) hkp (fun k_ hk_ hs_ => (hk_.2) hs_)) (fun k_ hk_ => ⟨hk_.1.1, hk_.1.2⟩)); replace BK293 := Aside0.mk (blk_kept (zB BK293.out) hkp (fun hs_ => (fun e_ => (Kd.R_ne HO_328003.out BK293.out (by decide)) e_) hs_)); replace BK310 := Aside0.mk (blk_kept (zB BK310.out) hkp (fun hs_ => (fun e_ => (Kd.R_ne HO_328003.out BK310.out (by decide)) e_) hs_)); replace BK317 := Aside0.mk (blk_kept (zB BK317.out) hkp (fun hs_ => (fun e_ => (Kd.R_ne HO_328003.out BK317.out (by decide)) e_) hs_)); replace BK327 := Aside0.mk (blk_kept (zB BK327.out) hkp (fun hs_ => (fun e_ => (Kd.R_ne HO_328003.out BK327.out (by decide)) e_) hs_)); replace HO_328003 := Aside0.mk (Kd.R_reok rfl hy0 (fun k_ e_ => HO_328003.out.1 k_ e_)); replace HB := Aside0.mk (hb); (try clear hb); (try clear hkp); (try clear hy0); obtain ⟨Ao129, co129, eo129⟩ := Kd.R_slice HO_8.out; subst eo129) | ((with_reducible refine gate_callee (f := 48) rfl ?_); refine goesL_ (some 69) rfl rfl Try.func48 (by kernel_rfl) rfl #[.slice Ao129 t324.length co129, .int .i64 t341] rfl (by (try simp only [m3]); first | done | rfl | (simp only [d2]; rfl)) ?_; (with_reducible refine (laws_markIntS.calls kj62 (fun k_ => some k_ = (.slice Ao129 t324.length co129 : Value).ownBlock) (.slice Ao129 t324.length co129) t324 t341 t343 t344 w _ ?side1 ?side2 A97.out).mono ?_); (case side1 => repeat (first | (with_reducible first | exact HB.out | apply below_alloc | apply pw_below_drewN | apply below_drew1 | refine below_set ?_ GE293.out | refine below_set ?_ GE310.out | refine below_set ?_ GE317.out | refine below_set ?_ GE327.out) | exact HB.out)); (case side2 => exact Kd.R_tight rfl HO_8.out); rintro e w130 ⟨rfl, hy0, hb, hkp⟩; refine ⟨_, rfl, ?_⟩; replace HO_5 := Aside0.mk (Kd.R_mono (ok' := fun k_ => some k_ ≠ (.slice Ao129 t324.length co129 : Value).ownBlock) (Kd.R_keptB (HO_5.out) hkp (fun k_ hk_ hs_ => (hk_) hs_)) (fun k_ hk_ => hk_.1)); replace HO_311003 := Aside0.mk (Kd.R_mono (ok' := fun k_ => some k_ ≠ (.slice Ao29 t338.length co29 : Value).ownBlock ∧ some k_ ≠ (.slice Ao36 t321.length co36 : Value).ownBlock) (Kd.R_keptB ((Kd.R_apart' HO_311003.out (Kd.R_typed HO_8.out) (by decide))) hkp (fun k_ hk_ hs_ => (hk_.2) hs_)) (fun k_ hk_ => ⟨hk_.1.1.1, hk_.1.1.2⟩)); replace HO_318003 := Aside0.mk (Kd.R_mono (ok' := fun k_ => some k_ ≠ (.slice Ao22 t304.length co22 : Value).ownBlock ∧ some k_ ≠ (.slice Ao36 t321.length co36 : Value).ownBlock) (Kd.R_keptB ((Kd.R_apart' HO_318003.out (Kd.R_typed HO_8.out) (by decide))) hkp (fun k_ hk_ hs_ => (hk_.2) hs_)) (fun k_ hk_ => ⟨hk_.1.1.1, hk_.1.1.2⟩)); replace HO_328003 := Aside0.mk (Kd.R_mono (ok' := fun k_ => some k_ ≠ (.slice Ao22 t304.length co22 : Value).ownBlock ∧ some k_ ≠ (.slice Ao29 t338.length co29 : Value).ownBlock) (Kd.R_keptB ((Kd.R_apart' HO_328003.out (Kd.R_typed HO_8.out) (by decide))) hkp (fun k_ hk_ hs_ => (hk_.2) hs_)) (fun k_ hk_ => ⟨hk_.1.1.1, hk_.1.1.2⟩)); replace BK293 := Aside0.mk (blk_kept (zB BK293.out) hkp (fun hs_ => (fun e_ => (Kd.R_ne HO_8.out BK293.out (by decide)) e_) hs_)); replace BK310 := Aside0.mk (blk_kept (zB BK310.out) hkp (fun hs_ => (fun e_ => (Kd.R_ne HO_8.out BK310.out (by decide)) e_) hs_)); replace BK317 := Aside0.mk (blk_kept (zB BK317.out) hkp (fun hs_ => (fun e_ => (Kd.R_ne HO_8.out BK317.out (by decide)) e_) hs_)); replace BK327 := Aside0.mk (blk_kept (zB BK327.out) hkp (fun hs_ => (fun e_ => (Kd.R_ne HO_8.out BK327.out (by decide)) e_) hs_)); replace HO_8 := Aside0.mk (Kd.R_reok rfl hy0 (fun k_ e_ => HO_8.out.1 k_ e_)); replace HB := Aside0.mk (hb); (try clear hb); (try clear hkp); (try clear hy0); have hcz131_0 : w130.cell? ⟨gb327, 0, none⟩ = some (.int .i64 t318) := b1 BK327 0; have hcz131_1 : w130.cell? ⟨gb327, 1, none⟩ = some (.int .i64 t319) := b1 BK327 1; have hcz131_2 : w130.cell? ⟨gb327, 2, none⟩ = some (.int .i64 t320) := b1 BK327 2; have hcz131_3 : w130.cell? ⟨gb327, 3, none⟩ = some (.slice Ao36 t321.length co36) := b1 BK327 3; have hfz131_0 := blk_frozen BK327.out 0; have hfz131_1 := blk_frozen BK327.out 1; have hfz131_2 := blk_frozen BK327.out 2; have hfz131_3 := blk_frozen BK327.out 3) | ((with_reducible refine gate_callee (f := 18) rfl ?_); refine goesL_ (some 72) rfl rfl Try.func18 (by kernel_rfl) rfl #[.agg #[.int .i64 t318, .int .i64 t319, .int .i64 t320, .slice Ao36 t342.length co36], .int .i64 1] rfl (by (try simp only [m3]); first | done | (rw [show t342.length = t321.length from (Kd.R_reads' HO_328003.out).1.symm] <;> rfl) | rfl | (simp only [d2]; rfl)) ?_; (with_reducible refine (laws_heldAuto.calls kj62 t318 t319 t320 _ _ t342 1 t345 _ ?side1 ?side2 A98.out).mono ?_); (case side1 => exact zC (Kd.R_reads' HO_328003.out).2.2); (case side2 => rw [show t342.length = t321.length from (Kd.R_reads' HO_328003.out).1.symm]; exact (Kd.R_reads' HO_328003.out).2.1); rintro e w132 ⟨rfl, hb⟩; refine ⟨_, rfl, ?_⟩; replace HO_5 := xR HO_5 hb; replace HO_8 := xR HO_8 hb; replace HO_311003 := xR HO_311003 hb; replace HO_318003 := xR HO_318003 hb; replace HO_328003 := xR HO_328003 hb; replace BK293 := xB BK293 hb; replace BK310 := xB BK310 hb; replace BK317 := xB BK317 hb; replace BK327 := xB BK327 hb; replace HB := xS HB hb; (try clear hb); (try clear hb2); (try clear hk); (try clear hi)) | ((with_reducible refine gate_callee (f := 49) rfl ?_); refine goesL_ (some 77) rfl rfl Try.func49 (by kernel_rfl) rfl #[.slice Ao129 t344.length co129, .int .i64 t345] rfl (by (try simp only [m3]); first | done | (rw [show t344.length = t324.length from (Kd.R_reads' HO_8.out).1.symm] <;> rfl) | rfl | (simp only [d2]; rfl)) ?_; (with_reducible refine (laws_heldIntS.calls kj62 _ _ t344 t345 t346 _ ?side1 ?side2 A109.out).mono ?_); (case side1 => exact zC (Kd.R_reads' HO_8.out).2.2); (case side2 => rw [show t344.length = t324.length from (Kd.R_reads' HO_8.out).1.symm]; exact (Kd.R_reads' HO_8.out).2.1); rintro e w' ⟨rfl, ⟨nd, rfl⟩⟩; refine ⟨_, rfl, ?_⟩; (try (rw [drewN_self w132]; generalize hq_ : World.drewN w132 _ = w132; have n0_ : Aside0 (Kd.R k68 68 w132 w.heap.size (fun k_ => (some k_ ≠ (.slice Ao29 t338.length co29 : Value).ownBlock ∧ some k_ ≠ (.slice Ao36 t321.length co36 : Value).ownBlock)) (.slice Ao22 t304.length co22) t304) := ⟨by rw [← hq_]; exact (zR HO_311003.out)⟩; have n1_ : Aside0 (Kd.R k68 68 w132 w.heap.size (fun k_ => (some k_ ≠ (.slice Ao22 t304.length co22 : Value).ownBlock ∧ some k_ ≠ (.slice Ao36 t321.length co36 : Value).ownBlock)) (.slice Ao29 t338.length co29) t338) := ⟨by rw [← hq_]; exact (zR HO_318003.out)⟩; have n2_ : Aside0 (Kd.R k68 68 w132 w.heap.size (fun k_ => (some k_ ≠ (.slice Ao22 t304.length co22 : Value).ownBlock ∧ some k_ ≠ (.slice Ao29 t338.length co29 : Value).ownBlock)) (.slice Ao36 t321.length co36) t342) := ⟨by rw [← hq_]; exact (zR HO_328003.out)⟩; have n3_ : Aside0 (Kd.R (Kd.int .i64) 3 w132 w.heap.size (fun k_ => some k_ ≠ (.slice Ao129 t324.length co129 : Value).ownBlock) v308 t307) := ⟨by rw [← hq_]; exact (zR HO_5.out)⟩; have n4_ : Aside0 (Kd.R (Kd.int .i64) 3 w132 w.heap.size (fun k_ => some k_ ≠ (v308 : Value).ownBlock) (.slice Ao129 t324.length co129) t344) := ⟨by rw [← hq_]; exact (zR HO_8.out)⟩; have n5_ : Aside0 (w132.heap[gb293]? = some (.cells #[.int .i64 a0_0, .int .i64 a0_1, .int .i64 a0_2, .slice A0_3 l0_3.length c0_3] 31 (0, 0))) := ⟨by rw [← hq_]; exact (zB BK293.out)⟩; have n6_ : Aside0 (w132.heap[gb310]? = some (.cells #[.int .i64 t301, .int .i64 t302, .int .i64 t303, .slice Ao22 t304.length co22] 24 (0, 0))) := ⟨by rw [← hq_]; exact (zB BK310.out)⟩; have n7_ : Aside0 (w132.heap[gb317]? = some (.cells #[.int .i64 t311, .int .i64 t312, .int .i64 t313, .slice Ao29 t338.length co29] 24 (0, 0))) := ⟨by rw [← hq_]; exact (zB BK317.out)⟩; have n8_ : Aside0 (w132.heap[gb327]? = some (.cells #[.int .i64 t318, .int .i64 t319, .int .i64 t320, .slice Ao36 t321.length co36] 24 (0, 0))) := ⟨by rw [← hq_]; exact (zB BK327.out)⟩; have n9_ : Aside0 (Below w.heap.size w w132) := ⟨by rw [← hq_]; exact (zS HB.out)⟩; clear HO_311003 HO_318003 HO_328003 HO_5 HO_8 BK293 BK310 BK317 BK327 HB hq_; have HO_311003 := n0_; have HO_318003 := n1_; have HO_328003 := n2_; have HO_5 := n3_; have HO_8 := n4_; have BK293 := n5_; have BK310 := n6_; have BK317 := n7_; have BK327 := n8_; have HB := n9_; clear n0_ n1_ n2_ n3_ n4_ n5_ n6_ n7_ n8_ n9_)); have hnb133 := NB293_310.out; have hnc133 := NB310_293.out; have hnb134 := NB293_317.out; have hnc134 := NB317_293.out; have hcz135_0 : w132.cell? ⟨gb293, 0, none⟩ = some (.int .i64 a0_0) := b1 BK293 0; have hcz135_1 : w132.cell? ⟨gb293, 1, none⟩ = some (.int .i64 a0_1) := b1 BK293 1; have hcz135_2 : w132.cell? ⟨gb293, 2, none⟩ = some (.int .i64 a0_2) := b1 BK293 2; have hcz135_3 : w132.cell? ⟨gb293, 3, none⟩ = some (.slice A0_3 l0_3.length c0_3) := b1 BK293 3; have hfz135_0 := blk_frozen BK293.out 0; have hfz135_1 := blk_frozen BK293.out 1; have hfz135_2 := blk_frozen BK293.out 2; have hfz135_3 := blk_frozen BK293.out 3) | ((with_reducible refine gate_callee (f := 21) rfl ?_); refine goesL_ (some 85) rfl rfl Try.func21 (by kernel_rfl) rfl #[.agg #[.int .i64 a0_0, .int .i64 a0_1, .int .i64 a0_2, .slice A0_3 l0_3.length c0_3]] rfl (by (try simp only [m3]); first | done | rfl | (simp only [d2]; rfl)) ?_; (with_reducible refine (laws_toAuto.calls kj62 a0_0 a0_1 a0_2 _ _ l0_3 t347 t348 t349 t350 _ ?side1 ?side2 A121.out).mono ?_); (case side1 => exact zC (Kd.C_below HR0_3.out HB.out)); (case side2 => exact HC0_3.out); rintro e w136 ⟨v351, rfl, ho0, hb⟩; refine ⟨_, rfl, ?_⟩; replace HO_5 := xR HO_5 hb; replace HO_8 := xR HO_8 hb; have HO352 := Aside0.mk (Kd.R_lower (Kd.R_new' (Kd.R_new' (Kd.R_new' ho0 (Kd.R_lt (zR HO_311003.out))) (Kd.R_lt (zR HO_318003.out))) (Kd.R_lt (zR HO_328003.out))) (below_size (zS HB.out))); replace HO_311003 := xE HO_311003 ho0 hb; replace HO_318003 := xE HO_318003 ho0 hb; replace HO_328003 := xE HO_328003 ho0 hb; replace BK293 := xB BK293 hb; replace BK310 := xB BK310 hb; replace BK317 := xB BK317 hb; replace BK327 := xB BK327 hb; replace HB := xS HB hb; (try clear hb); (try clear hb2); (try clear hk); (try clear hi); (try clear ho0); obtain ⟨Ao137, co137, eo137⟩ := Kd.R_slice HO352.out; subst eo137) | ((with_reducible refine gate_callee (f := 44) rfl ?_); refine goesL_ (some 86) rfl rfl Try.func44 (by kernel_rfl) rfl #[.agg #[.int .i64 t347, .int .i64 t348, .int .i64 t349, .slice Ao137 t350.length co137]] rfl (by (try simp only [m3]); first | done | rfl | (simp only [d2]; rfl)) ?_; (with_reducible refine (impl_AutoTrim.calls kj62 t347 t348 t349 _ _ t350 t353 t354 t355 t356 t359 _ ?side1 ?side2 A122.out).mono ?_); (case side1 => exact zC (Kd.R_reads' HO352.out).2.2); (case side2 => exact (Kd.R_reads' HO352.out).2.1); rintro e w138 ⟨v357, v360, rfl, ho0, ho1, hb⟩; refine ⟨_, rfl, ?_⟩; have HO358 := Aside0.mk (Kd.R_lower (Kd.R_new' (Kd.R_new' (Kd.R_new' (Kd.R_new' ho0 (Kd.R_lt (zR HO_311003.out))) (Kd.R_lt (zR HO_318003.out))) (Kd.R_lt (zR HO_328003.out))) (Kd.R_lt (zR HO352.out))) (below_size (zS HB.out))); replace HO_311003 := xE HO_311003 ho0 hb; replace HO_318003 := xE HO_318003 ho0 hb; replace HO_328003 := xE HO_328003 ho0 hb; replace HO352 := xE HO352 ho0 hb; have HO361 := Aside0.mk (Kd.R_lower (Kd.R_new' (Kd.R_new' ho1 (Kd.R_lt (zR HO_5.out))) (Kd.R_lt (zR HO_8.out))) (below_size (zS HB.out))); replace HO_5 := xE HO_5 ho1 hb; replace HO_8 := xE HO_8 ho1 hb; replace BK293 := xB BK293 hb; replace BK310 := xB BK310 hb; replace BK317 := xB BK317 hb; replace BK327 := xB BK327 hb; replace HB := xS HB hb; (try clear hb); (try clear hb2); (try clear hk); (try clear hi); (try clear ho0); (try clear ho1)) | ((with_reducible refine gate_dst (N := 12) rfl ?_); refine box_event ?hg (N := 12) ?hd (cs := #[.int .i64 0, .int .i64 0, .int .i64 0, .slice none 0 0]) (t := 24) ?hr ?_; (case hd => rfl); (case hg => rfl); (case hr => first | (go_simp; done) | (go_simp; rfl)); intro gb362 hg w139 hbox hb; replace HO_5 := xR HO_5 hb; replace HO_8 := xR HO_8 hb; replace HO_311003 := xR HO_311003 hb; replace HO_318003 := xR HO_318003 hb; replace HO_328003 := xR HO_328003 hb; replace HO352 := xR HO352 hb; replace HO358 := xR HO358 hb; replace HO361 := xR HO361 hb; have BK362 := Aside0.mk (hbox); have GW362 := xG HB hg; have GE362 := xG HB hg; replace HB := xS HB hb; have NB293_362 := xN BK293 hg; have NB362_293 := xM BK293 hg; replace BK293 := xB BK293 hb; have NB310_362 := xN BK310 hg; have NB362_310 := xM BK310 hg; replace BK310 := xB BK310 hb; have NB317_362 := xN BK317 hg; have NB362_317 := xM BK317 hg; replace BK317 := xB BK317 hb; have NB327_362 := xN BK327 hg; have NB362_327 := xM BK327 hg; replace BK327 := xB BK327 hb; clear hb hbox hg; have hnb140 := NB362_293.out; have hnc140 := NB293_362.out; have hnb141 := NB362_310.out; have hnc141 := NB310_362.out; have hnb142 := NB362_317.out; have hnc142 := NB317_362.out; have hnb143 := NB362_327.out; have hnc143 := NB327_362.out; have hcz144_0 : w139.cell? ⟨gb362, 0, none⟩ = some (.int .i64 0) := b1 BK362 0; have hcz144_1 : w139.cell? ⟨gb362, 1, none⟩ = some (.int .i64 0) := b1 BK362 1; have hcz144_2 : w139.cell? ⟨gb362, 2, none⟩ = some (.int .i64 0) := b1 BK362 2; have hcz144_3 : w139.cell? ⟨gb362, 3, none⟩ = some (.slice none 0 0) := b1 BK362 3; have hfz144_0 := blk_frozen BK362.out 0; have hfz144_1 := blk_frozen BK362.out 1; have hfz144_2 := blk_frozen BK362.out 2; have hfz144_3 := blk_frozen BK362.out 3; obtain ⟨Ao145, co145, eo145⟩ := Kd.R_slice HO358.out; subst eo145))
            (try simp only [Act.put, q3])
            go_cut [98] (fun v98 wc => ∃ (kq : Nat) (x98_122 : Bool), v98 = .bool x98_122 ∧ Aside0 (laws_FnExactAutoTrim.j2 kq t344 t343 x98_122 t318 t319 t320 t342 = some r) ∧ Aside0 (kq ≤ kj62) ∧ Aside0 (Kd.R (Kd.int .i64) 3 wc w.heap.size (fun _ => True) (.slice Ao129 t324.length co129) t344) ∧ Aside0 (Kd.R k68 68 wc w.heap.size (fun k_ => some k_ ≠ ((.slice Ao29 t338.length co29) : Value).ownBlock ∧ some k_ ≠ ((.slice Ao36 t321.length co36) : Value).ownBlock ∧ some k_ ≠ ((.slice Ao145 t356.length co145) : Value).ownBlock) (.slice Ao22 t304.length co22) t304) ∧ Aside0 (Kd.R k68 68 wc w.heap.size (fun k_ => some k_ ≠ ((.slice Ao22 t304.length co22) : Value).ownBlock ∧ some k_ ≠ ((.slice Ao36 t321.length co36) : Value).ownBlock ∧ some k_ ≠ ((.slice Ao145 t356.length co145) : Value).ownBlock) (.slice Ao29 t338.length co29) t338) ∧ Aside0 (Kd.R k68 68 wc w.heap.size (fun k_ => some k_ ≠ ((.slice Ao22 t304.length co22) : Value).ownBlock ∧ some k_ ≠ ((.slice Ao29 t338.length co29) : Value).ownBlock ∧ some k_ ≠ ((.slice Ao145 t356.length co145) : Value).ownBlock) (.slice Ao36 t321.length co36) t342) ∧ Aside0 (Kd.R k68 68 wc w.heap.size (fun k_ => some k_ ≠ ((.slice Ao22 t304.length co22) : Value).ownBlock ∧ some k_ ≠ ((.slice Ao29 t338.length co29) : Value).ownBlock ∧ some k_ ≠ ((.slice Ao36 t321.length co36) : Value).ownBlock) (.slice Ao145 t356.length co145) t356) ∧ Aside0 (wc.heap[gb293]? = some (.cells #[.int .i64 a0_0, .int .i64 a0_1, .int .i64 a0_2, (.slice A0_3 l0_3.length c0_3)] 31 (0, 0))) ∧ Aside0 (wc.heap[gb310]? = some (.cells #[.int .i64 t301, .int .i64 t302, .int .i64 t303, (.slice Ao22 t304.length co22)] 24 (0, 0))) ∧ Aside0 (wc.heap[gb317]? = some (.cells #[.int .i64 t311, .int .i64 t312, .int .i64 t313, (.slice Ao29 t338.length co29)] 24 (0, 0))) ∧ Aside0 (wc.heap[gb327]? = some (.cells #[.int .i64 t318, .int .i64 t319, .int .i64 t320, (.slice Ao36 t321.length co36)] 24 (0, 0))) ∧ Aside0 (wc.heap[gb362]? = some (.cells #[.int .i64 t353, .int .i64 t354, .int .i64 t355, (.slice Ao145 t356.length co145)] 24 (0, 0))) ∧ Aside0 (Below w.heap.size w wc))
            case first =>
             have H := HC123.out; clear HC123; replace H := Option.bind_eq_some_iff.mp H; obtain ⟨t363, A1460, H⟩ := H; replace H : (if t363 = true then ((laws_eqIntS.f kj62 t359 t307).bind fun t364 => (laws_FnExactAutoTrim.j2 kj62 t344 t343 (!t364) t318 t319 t320 t342)) else (laws_FnExactAutoTrim.j2 kj62 t344 t343 true t318 t319 t320 t342)) = some r := H; have A146 := Aside0.mk A1460; clear A1460
             by_cases c147 : t363 = true
             ·subst c147
              have H1 : ((laws_eqIntS.f kj62 t359 t307).bind fun t364 => (laws_FnExactAutoTrim.j2 kj62 t344 t343 (!t364) t318 t319 t320 t342)) = some r := by rw [if_pos rfl] at H; exact H
              clear H; have H := H1; clear H1; replace H := Option.bind_eq_some_iff.mp H; obtain ⟨t364, A1480, H⟩ := H; replace H : (laws_FnExactAutoTrim.j2 kj62 t344 t343 (!t364) t318 t319 t320 t342) = some r := H; have A148 := Aside0.mk A1480; clear A1480; have H' := Aside0.mk H; clear H; have hnb149 := NB362_293.out; have hnc149 := NB293_362.out; have hnb150 := NB362_310.out; have hnc150 := NB310_362.out; have hnb151 := NB362_317.out; have hnc151 := NB317_362.out; have hnb152 := NB362_327.out; have hnc152 := NB327_362.out; have hcz153_0 : w139.cell? ⟨gb362, 0, none⟩ = some (.int .i64 0) := b1 BK362 0; have hcz153_1 : w139.cell? ⟨gb362, 1, none⟩ = some (.int .i64 0) := b1 BK362 1; have hcz153_2 : w139.cell? ⟨gb362, 2, none⟩ = some (.int .i64 0) := b1 BK362 2; have hcz153_3 : w139.cell? ⟨gb362, 3, none⟩ = some (.slice none 0 0) := b1 BK362 3; have hfz153_0 := blk_frozen BK362.out 0; have hfz153_1 := blk_frozen BK362.out 1; have hfz153_2 := blk_frozen BK362.out 2; have hfz153_3 := blk_frozen BK362.out 3; have hnb154 := NB310_293.out; have hnc154 := NB293_310.out; have hnb155 := NB310_317.out; have hnc155 := NB317_310.out; have hnb156 := NB310_327.out; have hnc156 := NB327_310.out; have hcz157_0 : w139.cell? ⟨gb310, 0, none⟩ = some (.int .i64 t301) := b1 BK310 0; have hcz157_1 : w139.cell? ⟨gb310, 1, none⟩ = some (.int .i64 t302) := b1 BK310 1; have hcz157_2 : w139.cell? ⟨gb310, 2, none⟩ = some (.int .i64 t303) := b1 BK310 2; have hcz157_3 : w139.cell? ⟨gb310, 3, none⟩ = some (.slice Ao22 t304.length co22) := b1 BK310 3; have hfz157_0 := blk_frozen BK310.out 0; have hfz157_1 := blk_frozen BK310.out 1; have hfz157_2 := blk_frozen BK310.out 2; have hfz157_3 := blk_frozen BK310.out 3
              go_wp2_with (first | ((with_reducible refine gate_callee (f := 16) rfl ?_); refine goesL_ (some 91) rfl rfl Try.func16 (by kernel_rfl) rfl #[.agg #[.int .i64 t353, .int .i64 t354, .int .i64 t355, .slice Ao145 t356.length co145], .agg #[.int .i64 t301, .int .i64 t302, .int .i64 t303, .slice Ao22 t304.length co22]] rfl (by (try simp only [m3]); first | done | rfl | (simp only [d2]; rfl)) ?_; (with_reducible refine (laws_eqAuto.calls kj62 t353 t354 t355 _ _ t356 t301 t302 t303 _ _ t304 true _ ?side1 ?side2 ?side3 ?side4 A146.out).mono ?_); (case side1 => refine (Kd.R_reads' (e := 68) (base := w.heap.size) (ok := fun k_ => ((((True ∧ some k_ ≠ (.slice Ao22 t304.length co22 : Value).ownBlock) ∧ some k_ ≠ (.slice Ao29 t338.length co29 : Value).ownBlock) ∧ some k_ ≠ (.slice Ao36 t321.length co36 : Value).ownBlock) ∧ some k_ ≠ (.slice Ao137 t350.length co137 : Value).ownBlock)) (n := t356.length) (c := co145) ?_).2.2; exact (zR (xF4 HO358 BK362))); (case side2 => exact (Kd.R_reads' HO358.out).2.1); (case side3 => refine (Kd.R_reads' (e := 68) (base := w.heap.size) (ok := fun k_ => (((some k_ ≠ (.slice Ao29 t338.length co29 : Value).ownBlock ∧ some k_ ≠ (.slice Ao36 t321.length co36 : Value).ownBlock) ∧ some k_ ≠ (.slice Ao137 t350.length co137 : Value).ownBlock) ∧ some k_ ≠ (.slice Ao145 t356.length co145 : Value).ownBlock)) (n := t304.length) (c := co22) ?_).2.2; exact (zR (xF4 HO_311003 BK362))); (case side4 => exact (Kd.R_reads' HO_311003.out).2.1); rintro e w158 ⟨rfl, hb⟩; refine ⟨_, rfl, ?_⟩; replace HO_5 := Aside0.mk (Kd.R_below (zR (xF4 HO_5 BK362)) hb); replace HO_8 := Aside0.mk (Kd.R_below (zR (xF4 HO_8 BK362)) hb); replace HO_311003 := Aside0.mk (Kd.R_below (zR (xF4 HO_311003 BK362)) hb); replace HO_318003 := Aside0.mk (Kd.R_below (zR (xF4 HO_318003 BK362)) hb); replace HO_328003 := Aside0.mk (Kd.R_below (zR (xF4 HO_328003 BK362)) hb); replace HO352 := Aside0.mk (Kd.R_below (zR (xF4 HO352 BK362)) hb); replace HO358 := Aside0.mk (Kd.R_below (zR (xF4 HO358 BK362)) hb); replace HO361 := Aside0.mk (Kd.R_below (zR (xF4 HO361 BK362)) hb); replace BK293 := xB BK293 hb; replace BK310 := xB BK310 hb; replace BK317 := xB BK317 hb; replace BK327 := xB BK327 hb; replace BK362 := Aside0.mk (blk_below (g := gb362) (o := .cells #[.int .i64 t353, .int .i64 t354, .int .i64 t355, .slice Ao145 t356.length co145] 24 (0, 0)) (xP4 BK362.out) hb); replace HB := xS HB hb; (try clear hb); (try clear hb2); (try clear hk); (try clear hi); obtain ⟨Ao159, co159, eo159⟩ := Kd.R_slice HO361.out; subst eo159; obtain ⟨Ao160, co160, eo160⟩ := Kd.R_slice HO_5.out; subst eo160) | (go_at_call 47; (with_reducible refine (laws_eqIntS.calls kj62 _ _ t359 _ _ t307 t364 _ ?side1 ?side2 ?side3 ?side4 A148.out).mono ?_); (case side1 => exact zC (Kd.R_reads' HO361.out).2.2); (case side2 => exact (Kd.R_reads' HO361.out).2.1); (case side3 => exact zC (Kd.R_reads' HO_5.out).2.2); (case side4 => exact (Kd.R_reads' HO_5.out).2.1); rintro e w' ⟨rfl, ⟨nd, rfl⟩⟩))
              go_meet
              case rel => exact ⟨_, (!t364), (by first | rfl | (simp; done) | (simp [*]; done) | (rw [Int.tmod_eq_emod_of_nonneg (Int.natCast_nonneg _)]; done)), H', ⟨by have := HJ10.out; have := HJ62.out; first | omega | exact Nat.le_refl _⟩, ⟨by (try simp only [hl318003_62]); (with_reducible repeat (first | apply Kd.R_alloc | apply Kd.R_drewN | apply Kd.R_drew)); exact Kd.R_mono HO_8.out (fun _ hk => trivial)⟩, ⟨by (try simp only [hl318003_62]); (with_reducible repeat (first | apply Kd.R_alloc | apply Kd.R_drewN | apply Kd.R_drew)); exact Kd.R_mono HO_311003.out (fun _ hk => ⟨hk.1.1.1, ⟨hk.1.1.2, hk.2⟩⟩)⟩, ⟨by (try simp only [hl318003_62]); (with_reducible repeat (first | apply Kd.R_alloc | apply Kd.R_drewN | apply Kd.R_drew)); exact Kd.R_mono HO_318003.out (fun _ hk => ⟨hk.1.1.1, ⟨hk.1.1.2, hk.2⟩⟩)⟩, ⟨by (try simp only [hl318003_62]); (with_reducible repeat (first | apply Kd.R_alloc | apply Kd.R_drewN | apply Kd.R_drew)); exact Kd.R_mono HO_328003.out (fun _ hk => ⟨hk.1.1.1, ⟨hk.1.1.2, hk.2⟩⟩)⟩, ⟨by (try simp only [hl318003_62]); (with_reducible repeat (first | apply Kd.R_alloc | apply Kd.R_drewN | apply Kd.R_drew)); exact Kd.R_mono HO358.out (fun _ hk => ⟨hk.1.1.1.2, ⟨hk.1.1.2, hk.1.2⟩⟩)⟩, ⟨by (try simp only [hl318003_62]); (with_reducible repeat (first | refine blk_drewN ?_ _ | refine blk_drew ?_ | refine blk_alloc ?_ _)); exact BK293.out⟩, ⟨by (try simp only [hl318003_62]); (with_reducible repeat (first | refine blk_drewN ?_ _ | refine blk_drew ?_ | refine blk_alloc ?_ _)); exact BK310.out⟩, ⟨by (try simp only [hl318003_62]); (with_reducible repeat (first | refine blk_drewN ?_ _ | refine blk_drew ?_ | refine blk_alloc ?_ _)); exact BK317.out⟩, ⟨by (try simp only [hl318003_62]); (with_reducible repeat (first | refine blk_drewN ?_ _ | refine blk_drew ?_ | refine blk_alloc ?_ _)); exact BK327.out⟩, ⟨by (try simp only [hl318003_62]); (with_reducible repeat (first | refine blk_drewN ?_ _ | refine blk_drew ?_ | refine blk_alloc ?_ _)); exact BK362.out⟩, ⟨zS HB.out⟩⟩
             ·replace c147 := Bool.eq_false_iff.mpr c147; subst c147
              have H1 : (laws_FnExactAutoTrim.j2 kj62 t344 t343 true t318 t319 t320 t342) = some r := by rw [if_neg (show ¬ (false = true) by decide)] at H; exact H
              clear H; have H := H1; clear H1; have H' := Aside0.mk H; clear H; have hnb161 := NB362_293.out; have hnc161 := NB293_362.out; have hnb162 := NB362_310.out; have hnc162 := NB310_362.out; have hnb163 := NB362_317.out; have hnc163 := NB317_362.out; have hnb164 := NB362_327.out; have hnc164 := NB327_362.out; have hcz165_0 : w139.cell? ⟨gb362, 0, none⟩ = some (.int .i64 0) := b1 BK362 0; have hcz165_1 : w139.cell? ⟨gb362, 1, none⟩ = some (.int .i64 0) := b1 BK362 1; have hcz165_2 : w139.cell? ⟨gb362, 2, none⟩ = some (.int .i64 0) := b1 BK362 2; have hcz165_3 : w139.cell? ⟨gb362, 3, none⟩ = some (.slice none 0 0) := b1 BK362 3; have hfz165_0 := blk_frozen BK362.out 0; have hfz165_1 := blk_frozen BK362.out 1; have hfz165_2 := blk_frozen BK362.out 2; have hfz165_3 := blk_frozen BK362.out 3; have hnb166 := NB310_293.out; have hnc166 := NB293_310.out; have hnb167 := NB310_317.out; have hnc167 := NB317_310.out; have hnb168 := NB310_327.out; have hnc168 := NB327_310.out; have hcz169_0 : w139.cell? ⟨gb310, 0, none⟩ = some (.int .i64 t301) := b1 BK310 0; have hcz169_1 : w139.cell? ⟨gb310, 1, none⟩ = some (.int .i64 t302) := b1 BK310 1; have hcz169_2 : w139.cell? ⟨gb310, 2, none⟩ = some (.int .i64 t303) := b1 BK310 2; have hcz169_3 : w139.cell? ⟨gb310, 3, none⟩ = some (.slice Ao22 t304.length co22) := b1 BK310 3; have hfz169_0 := blk_frozen BK310.out 0; have hfz169_1 := blk_frozen BK310.out 1; have hfz169_2 := blk_frozen BK310.out 2; have hfz169_3 := blk_frozen BK310.out 3
              go_wp2_with (first | ((with_reducible refine gate_callee (f := 16) rfl ?_); refine goesL_ (some 91) rfl rfl Try.func16 (by kernel_rfl) rfl #[.agg #[.int .i64 t353, .int .i64 t354, .int .i64 t355, .slice Ao145 t356.length co145], .agg #[.int .i64 t301, .int .i64 t302, .int .i64 t303, .slice Ao22 t304.length co22]] rfl (by (try simp only [m3]); first | done | rfl | (simp only [d2]; rfl)) ?_; (with_reducible refine (laws_eqAuto.calls kj62 t353 t354 t355 _ _ t356 t301 t302 t303 _ _ t304 false _ ?side1 ?side2 ?side3 ?side4 A146.out).mono ?_); (case side1 => refine (Kd.R_reads' (e := 68) (base := w.heap.size) (ok := fun k_ => ((((True ∧ some k_ ≠ (.slice Ao22 t304.length co22 : Value).ownBlock) ∧ some k_ ≠ (.slice Ao29 t338.length co29 : Value).ownBlock) ∧ some k_ ≠ (.slice Ao36 t321.length co36 : Value).ownBlock) ∧ some k_ ≠ (.slice Ao137 t350.length co137 : Value).ownBlock)) (n := t356.length) (c := co145) ?_).2.2; exact (zR (xF4 HO358 BK362))); (case side2 => exact (Kd.R_reads' HO358.out).2.1); (case side3 => refine (Kd.R_reads' (e := 68) (base := w.heap.size) (ok := fun k_ => (((some k_ ≠ (.slice Ao29 t338.length co29 : Value).ownBlock ∧ some k_ ≠ (.slice Ao36 t321.length co36 : Value).ownBlock) ∧ some k_ ≠ (.slice Ao137 t350.length co137 : Value).ownBlock) ∧ some k_ ≠ (.slice Ao145 t356.length co145 : Value).ownBlock)) (n := t304.length) (c := co22) ?_).2.2; exact (zR (xF4 HO_311003 BK362))); (case side4 => exact (Kd.R_reads' HO_311003.out).2.1); rintro e w170 ⟨rfl, hb⟩; refine ⟨_, rfl, ?_⟩; replace HO_5 := Aside0.mk (Kd.R_below (zR (xF4 HO_5 BK362)) hb); replace HO_8 := Aside0.mk (Kd.R_below (zR (xF4 HO_8 BK362)) hb); replace HO_311003 := Aside0.mk (Kd.R_below (zR (xF4 HO_311003 BK362)) hb); replace HO_318003 := Aside0.mk (Kd.R_below (zR (xF4 HO_318003 BK362)) hb); replace HO_328003 := Aside0.mk (Kd.R_below (zR (xF4 HO_328003 BK362)) hb); replace HO352 := Aside0.mk (Kd.R_below (zR (xF4 HO352 BK362)) hb); replace HO358 := Aside0.mk (Kd.R_below (zR (xF4 HO358 BK362)) hb); replace HO361 := Aside0.mk (Kd.R_below (zR (xF4 HO361 BK362)) hb); replace BK293 := xB BK293 hb; replace BK310 := xB BK310 hb; replace BK317 := xB BK317 hb; replace BK327 := xB BK327 hb; replace BK362 := Aside0.mk (blk_below (g := gb362) (o := .cells #[.int .i64 t353, .int .i64 t354, .int .i64 t355, .slice Ao145 t356.length co145] 24 (0, 0)) (xP4 BK362.out) hb); replace HB := xS HB hb; (try clear hb); (try clear hb2); (try clear hk); (try clear hi)))
              go_meet
              case rel => exact ⟨_, (true), (by first | rfl | (simp; done) | (simp [*]; done) | (rw [Int.tmod_eq_emod_of_nonneg (Int.natCast_nonneg _)]; done)), H', ⟨by have := HJ10.out; have := HJ62.out; first | omega | exact Nat.le_refl _⟩, ⟨by (try simp only [hl318003_62]); (with_reducible repeat (first | apply Kd.R_alloc | apply Kd.R_drewN | apply Kd.R_drew)); exact Kd.R_mono HO_8.out (fun _ hk => trivial)⟩, ⟨by (try simp only [hl318003_62]); (with_reducible repeat (first | apply Kd.R_alloc | apply Kd.R_drewN | apply Kd.R_drew)); exact Kd.R_mono HO_311003.out (fun _ hk => ⟨hk.1.1.1, ⟨hk.1.1.2, hk.2⟩⟩)⟩, ⟨by (try simp only [hl318003_62]); (with_reducible repeat (first | apply Kd.R_alloc | apply Kd.R_drewN | apply Kd.R_drew)); exact Kd.R_mono HO_318003.out (fun _ hk => ⟨hk.1.1.1, ⟨hk.1.1.2, hk.2⟩⟩)⟩, ⟨by (try simp only [hl318003_62]); (with_reducible repeat (first | apply Kd.R_alloc | apply Kd.R_drewN | apply Kd.R_drew)); exact Kd.R_mono HO_328003.out (fun _ hk => ⟨hk.1.1.1, ⟨hk.1.1.2, hk.2⟩⟩)⟩, ⟨by (try simp only [hl318003_62]); (with_reducible repeat (first | apply Kd.R_alloc | apply Kd.R_drewN | apply Kd.R_drew)); exact Kd.R_mono HO358.out (fun _ hk => ⟨hk.1.1.1.2, ⟨hk.1.1.2, hk.1.2⟩⟩)⟩, ⟨by (try simp only [hl318003_62]); (with_reducible repeat (first | refine blk_drewN ?_ _ | refine blk_drew ?_ | refine blk_alloc ?_ _)); exact BK293.out⟩, ⟨by (try simp only [hl318003_62]); (with_reducible repeat (first | refine blk_drewN ?_ _ | refine blk_drew ?_ | refine blk_alloc ?_ _)); exact BK310.out⟩, ⟨by (try simp only [hl318003_62]); (with_reducible repeat (first | refine blk_drewN ?_ _ | refine blk_drew ?_ | refine blk_alloc ?_ _)); exact BK317.out⟩, ⟨by (try simp only [hl318003_62]); (with_reducible repeat (first | refine blk_drewN ?_ _ | refine blk_drew ?_ | refine blk_alloc ?_ _)); exact BK327.out⟩, ⟨by (try simp only [hl318003_62]); (with_reducible repeat (first | refine blk_drewN ?_ _ | refine blk_drew ?_ | refine blk_alloc ?_ _)); exact BK362.out⟩, ⟨zS HB.out⟩⟩
            case rest =>
             clear HC123
             try clear c1
             try clear c2
             try clear p2
             try clear c3
             try clear c3b0
             try clear c4
             try clear c5
             try clear c6
             try clear c7
             try clear c8
             try clear c9
             try clear c10
             try clear c11
             try clear c12
             try clear c13
             try clear c14
             try clear c15
             try clear c16
             try clear c17
             try clear c18
             try clear c19
             try clear c20
             try clear c21
             try clear c26
             try clear c27
             try clear c32
             try clear c33
             try clear c34
             try clear c38
             try clear c40
             try clear c41
             try clear c42
             try clear c44
             try clear c45
             try clear c46
             try clear c48
             try clear c49
             try clear c50
             try clear c51
             try clear c52
             try clear c54
             try clear c55
             try clear c58
             try clear c61
             try clear c68
             try clear c69
             try clear c70
             try clear c73
             try clear c73b0
             try clear c75
             try clear c77
             try clear c78
             try clear c79
             try clear c81
             try clear c82
             try clear c87
             try clear c88
             try clear c89
             try clear c91
             try clear c92
             try clear c95
             try clear c99
             try clear c99b0
             try clear c100
             try clear c101
             try clear c102
             try clear c110
             try clear c110b0
             try clear c111
             try clear c112
             try clear c113
             try clear c120
             try clear c120b0
             try clear c120b1
             try clear c124
             try clear c125
             try clear c126
             try clear c133
             try clear c134
             try clear c140
             try clear c141
             try clear c142
             try clear c143
             try clear c147
             try clear c149
             try clear c150
             try clear c151
             try clear c152
             try clear c154
             try clear c155
             try clear c156
             try clear c161
             try clear c162
             try clear c163
             try clear c164
             try clear c166
             try clear c167
             try clear c168
             try clear hcz103_0
             try clear hcz103_1
             try clear hcz103_2
             try clear hcz103_3
             try clear hcz107_0
             try clear hcz107_1
             try clear hcz107_2
             try clear hcz107_3
             try clear hcz114_0
             try clear hcz114_1
             try clear hcz114_2
             try clear hcz114_3
             try clear hcz118_0
             try clear hcz118_1
             try clear hcz118_2
             try clear hcz118_3
             try clear hcz127_0
             try clear hcz127_1
             try clear hcz127_2
             try clear hcz127_3
             try clear hcz131_0
             try clear hcz131_1
             try clear hcz131_2
             try clear hcz131_3
             try clear hcz135_0
             try clear hcz135_1
             try clear hcz135_2
             try clear hcz135_3
             try clear hcz13_0
             try clear hcz13_1
             try clear hcz13_2
             try clear hcz13_3
             try clear hcz144_0
             try clear hcz144_1
             try clear hcz144_2
             try clear hcz144_3
             try clear hcz153_0
             try clear hcz153_1
             try clear hcz153_2
             try clear hcz153_3
             try clear hcz157_0
             try clear hcz157_1
             try clear hcz157_2
             try clear hcz157_3
             try clear hcz15_0
             try clear hcz15_1
             try clear hcz15_2
             try clear hcz15_3
             try clear hcz165_0
             try clear hcz165_1
             try clear hcz165_2
             try clear hcz165_3
             try clear hcz169_0
             try clear hcz169_1
             try clear hcz169_2
             try clear hcz169_3
             try clear hcz21_0
             try clear hcz21_1
             try clear hcz21_2
             try clear hcz21_3
             try clear hcz23_0
             try clear hcz23_1
             try clear hcz23_2
             try clear hcz23_3
             try clear hcz28_0
             try clear hcz28_1
             try clear hcz28_2
             try clear hcz28_3
             try clear hcz35_0
             try clear hcz35_1
             try clear hcz35_2
             try clear hcz35_3
             try clear hcz43_0
             try clear hcz43_1
             try clear hcz43_2
             try clear hcz43_3
             try clear hcz46_0
             try clear hcz46_1
             try clear hcz46_2
             try clear hcz46_3
             try clear hcz53_0
             try clear hcz53_1
             try clear hcz53_2
             try clear hcz53_3
             try clear hcz56_0
             try clear hcz56_1
             try clear hcz56_2
             try clear hcz56_3
             try clear hcz5_0
             try clear hcz5_1
             try clear hcz5_2
             try clear hcz5_3
             try clear hcz71_0
             try clear hcz71_1
             try clear hcz71_2
             try clear hcz71_3
             try clear hcz80_0
             try clear hcz80_1
             try clear hcz80_2
             try clear hcz80_3
             try clear hcz83_0
             try clear hcz83_1
             try clear hcz83_2
             try clear hcz83_3
             try clear hcz90_0
             try clear hcz90_1
             try clear hcz90_2
             try clear hcz90_3
             try clear hcz93_0
             try clear hcz93_1
             try clear hcz93_2
             try clear hcz93_3
             try clear hfz103_0
             try clear hfz103_1
             try clear hfz103_2
             try clear hfz103_3
             try clear hfz107_0
             try clear hfz107_1
             try clear hfz107_2
             try clear hfz107_3
             try clear hfz114_0
             try clear hfz114_1
             try clear hfz114_2
             try clear hfz114_3
             try clear hfz118_0
             try clear hfz118_1
             try clear hfz118_2
             try clear hfz118_3
             try clear hfz127_0
             try clear hfz127_1
             try clear hfz127_2
             try clear hfz127_3
             try clear hfz131_0
             try clear hfz131_1
             try clear hfz131_2
             try clear hfz131_3
             try clear hfz135_0
             try clear hfz135_1
             try clear hfz135_2
             try clear hfz135_3
             try clear hfz13_0
             try clear hfz13_1
             try clear hfz13_2
             try clear hfz13_3
             try clear hfz144_0
             try clear hfz144_1
             try clear hfz144_2
             try clear hfz144_3
             try clear hfz153_0
             try clear hfz153_1
             try clear hfz153_2
             try clear hfz153_3
             try clear hfz157_0
             try clear hfz157_1
             try clear hfz157_2
             try clear hfz157_3
             try clear hfz15_0
             try clear hfz15_1
             try clear hfz15_2
             try clear hfz15_3
             try clear hfz165_0
             try clear hfz165_1
             try clear hfz165_2
             try clear hfz165_3
             try clear hfz169_0
             try clear hfz169_1
             try clear hfz169_2
             try clear hfz169_3
             try clear hfz21_0
             try clear hfz21_1
             try clear hfz21_2
             try clear hfz21_3
             try clear hfz23_0
             try clear hfz23_1
             try clear hfz23_2
             try clear hfz23_3
             try clear hfz28_0
             try clear hfz28_1
             try clear hfz28_2
             try clear hfz28_3
             try clear hfz35_0
             try clear hfz35_1
             try clear hfz35_2
             try clear hfz35_3
             try clear hfz43_0
             try clear hfz43_1
             try clear hfz43_2
             try clear hfz43_3
             try clear hfz46_0
             try clear hfz46_1
             try clear hfz46_2
             try clear hfz46_3
             try clear hfz53_0
             try clear hfz53_1
             try clear hfz53_2
             try clear hfz53_3
             try clear hfz56_0
             try clear hfz56_1
             try clear hfz56_2
             try clear hfz56_3
             try clear hfz5_0
             try clear hfz5_1
             try clear hfz5_2
             try clear hfz5_3
             try clear hfz71_0
             try clear hfz71_1
             try clear hfz71_2
             try clear hfz71_3
             try clear hfz80_0
             try clear hfz80_1
             try clear hfz80_2
             try clear hfz80_3
             try clear hfz83_0
             try clear hfz83_1
             try clear hfz83_2
             try clear hfz83_3
             try clear hfz90_0
             try clear hfz90_1
             try clear hfz90_2
             try clear hfz90_3
             try clear hfz93_0
             try clear hfz93_1
             try clear hfz93_2
             try clear hfz93_3
             try clear p2
             obtain ⟨kq, x98_122, rfl, HA, HJ122, HO_8, HO_311003, HO_318003, HO_328003, HO_363003, BK293, BK310, BK317, BK327, BK362, HB⟩ := hcut; have hl8_122 := (Kd.R_reads' HO_8.out).1; rw [hl8_122] at HO_8
             (try simp only [hl8_122])
             (try simp only [hl8_122] at BK293)
             (try simp only [hl8_122] at BK310)
             (try simp only [hl8_122] at BK317)
             (try simp only [hl8_122] at BK327)
             (try simp only [hl8_122] at BK362)
             (try simp only [hl8_122] at HO_311003)
             (try simp only [hl8_122] at HO_318003)
             (try simp only [hl8_122] at HO_328003)
             (try simp only [hl8_122] at HO_363003)
             have hl328003_122 := (Kd.R_reads' HO_328003.out).1; rw [hl328003_122] at HO_328003
             (try simp only [hl328003_122])
             (try simp only [hl328003_122] at BK293)
             (try simp only [hl328003_122] at BK310)
             (try simp only [hl328003_122] at BK317)
             (try simp only [hl328003_122] at BK327)
             (try simp only [hl328003_122] at BK362)
             (try simp only [hl328003_122] at HO_8)
             (try simp only [hl328003_122] at HO_311003)
             (try simp only [hl328003_122] at HO_318003)
             (try simp only [hl328003_122] at HO_363003)
             cases kq with
             | zero => exact absurd HA.out (by simp [laws_FnExactAutoTrim.j2])
             | succ kj122 =>
              have H := HA.out; clear HA; simp only [laws_FnExactAutoTrim.j2] at H
              by_cases c171 : x98_122 = true
              ·subst c171
               have H1 : (some false) = some r := by rw [if_pos rfl] at H; exact H
               clear H; have H := H1; clear H1; obtain rfl := Option.some.inj H
               go_wp2
               go_ret; exact ⟨by first | rfl | (simp [errW_none, errW_some] <;> rfl) | (simp [*, errW_none, errW_some] <;> rfl), by repeat (first | (with_reducible first | exact HB.out | apply below_alloc | apply pw_below_drewN | apply below_drew1 | refine below_set ?_ GE293.out | refine below_set ?_ GE310.out | refine below_set ?_ GE317.out | refine below_set ?_ GE327.out | refine below_set ?_ GE362.out) | exact HB.out)⟩
              ·replace c171 := Bool.eq_false_iff.mpr c171; subst c171
               have H1 : ((laws_heldAuto.f kj122 t318 t319 t320 t342 1).bind fun t365 => (if t365 < 0 then (some false) else ((laws_heldIntS.f kj122 t344 t365).bind fun t366 => (if t366 < 0 then (some false) else (if t366 = t343 then (some true) else (some false)))))) = some r := by rw [if_neg (show ¬ (false = true) by decide)] at H; exact H
               clear H; have H := H1; clear H1; replace H := Option.bind_eq_some_iff.mp H; obtain ⟨t365, A1720, H⟩ := H; replace H : (if t365 < 0 then (some false) else ((laws_heldIntS.f kj122 t344 t365).bind fun t366 => (if t366 < 0 then (some false) else (if t366 = t343 then (some true) else (some false))))) = some r := H; have A172 := Aside0.mk A1720; clear A1720
               by_cases c173 : t365 < 0
               ·rw [if_pos c173] at H; have c173b0 : decide (t365 < 0) = true := decide_eq_true c173; clear c173; obtain rfl := Option.some.inj H; have hnb174 := NB327_293.out; have hnc174 := NB293_327.out; have hnb175 := NB327_310.out; have hnc175 := NB310_327.out; have hnb176 := NB327_317.out; have hnc176 := NB317_327.out; have hnb177 := NB327_362.out; have hnc177 := NB362_327.out; have hcz178_0 : wc.cell? ⟨gb327, 0, none⟩ = some (.int .i64 t318) := b1 BK327 0; have hcz178_1 : wc.cell? ⟨gb327, 1, none⟩ = some (.int .i64 t319) := b1 BK327 1; have hcz178_2 : wc.cell? ⟨gb327, 2, none⟩ = some (.int .i64 t320) := b1 BK327 2; have hcz178_3 : wc.cell? ⟨gb327, 3, none⟩ = some (.slice Ao36 t342.length co36) := b1 BK327 3; have hfz178_0 := blk_frozen BK327.out 0; have hfz178_1 := blk_frozen BK327.out 1; have hfz178_2 := blk_frozen BK327.out 2; have hfz178_3 := blk_frozen BK327.out 3
                go_wp2_with (first | ((with_reducible refine gate_callee (f := 18) rfl ?_); refine goesL_ (some 101) rfl rfl Try.func18 (by kernel_rfl) rfl #[.agg #[.int .i64 t318, .int .i64 t319, .int .i64 t320, .slice Ao36 t342.length co36], .int .i64 1] rfl (by (try simp only [m3]); first | done | rfl | (simp only [d2]; rfl)) ?_; (with_reducible refine (laws_heldAuto.calls kj122 t318 t319 t320 _ _ t342 1 t365 _ ?side1 ?side2 A172.out).mono ?_); (case side1 => exact zC (Kd.R_reads' HO_328003.out).2.2); (case side2 => exact (Kd.R_reads' HO_328003.out).2.1); rintro e w179 ⟨rfl, hb⟩; refine ⟨_, rfl, ?_⟩; replace HO_8 := xR HO_8 hb; replace HO_311003 := xR HO_311003 hb; replace HO_318003 := xR HO_318003 hb; replace HO_328003 := xR HO_328003 hb; replace HO_363003 := xR HO_363003 hb; replace BK293 := xB BK293 hb; replace BK310 := xB BK310 hb; replace BK317 := xB BK317 hb; replace BK327 := xB BK327 hb; replace BK362 := xB BK362 hb; replace HB := xS HB hb; (try clear hb); (try clear hb2); (try clear hk); (try clear hi)))
                go_ret; exact ⟨by first | rfl | (simp [errW_none, errW_some] <;> rfl) | (simp [*, errW_none, errW_some] <;> rfl), by repeat (first | (with_reducible first | exact HB.out | apply below_alloc | apply pw_below_drewN | apply below_drew1 | refine below_set ?_ GE293.out | refine below_set ?_ GE310.out | refine below_set ?_ GE317.out | refine below_set ?_ GE327.out | refine below_set ?_ GE362.out) | exact HB.out)⟩
               ·rw [if_neg c173] at H; have c173b0 : decide (t365 < 0) = false := decide_eq_false c173; clear c173; replace H := Option.bind_eq_some_iff.mp H; obtain ⟨t366, A1800, H⟩ := H; replace H : (if t366 < 0 then (some false) else (if t366 = t343 then (some true) else (some false))) = some r := H; have A180 := Aside0.mk A1800; clear A1800
                by_cases c181 : t366 < 0
                ·rw [if_pos c181] at H; have c181b0 : decide (t366 < 0) = true := decide_eq_true c181; clear c181; obtain rfl := Option.some.inj H; have hnb182 := NB327_293.out; have hnc182 := NB293_327.out; have hnb183 := NB327_310.out; have hnc183 := NB310_327.out; have hnb184 := NB327_317.out; have hnc184 := NB317_327.out; have hnb185 := NB327_362.out; have hnc185 := NB362_327.out; have hcz186_0 : wc.cell? ⟨gb327, 0, none⟩ = some (.int .i64 t318) := b1 BK327 0; have hcz186_1 : wc.cell? ⟨gb327, 1, none⟩ = some (.int .i64 t319) := b1 BK327 1; have hcz186_2 : wc.cell? ⟨gb327, 2, none⟩ = some (.int .i64 t320) := b1 BK327 2; have hcz186_3 : wc.cell? ⟨gb327, 3, none⟩ = some (.slice Ao36 t342.length co36) := b1 BK327 3; have hfz186_0 := blk_frozen BK327.out 0; have hfz186_1 := blk_frozen BK327.out 1; have hfz186_2 := blk_frozen BK327.out 2; have hfz186_3 := blk_frozen BK327.out 3
                 go_wp2_with (first | ((with_reducible refine gate_callee (f := 18) rfl ?_); refine goesL_ (some 101) rfl rfl Try.func18 (by kernel_rfl) rfl #[.agg #[.int .i64 t318, .int .i64 t319, .int .i64 t320, .slice Ao36 t342.length co36], .int .i64 1] rfl (by (try simp only [m3]); first | done | rfl | (simp only [d2]; rfl)) ?_; (with_reducible refine (laws_heldAuto.calls kj122 t318 t319 t320 _ _ t342 1 t365 _ ?side1 ?side2 A172.out).mono ?_); (case side1 => exact zC (Kd.R_reads' HO_328003.out).2.2); (case side2 => exact (Kd.R_reads' HO_328003.out).2.1); rintro e w187 ⟨rfl, hb⟩; refine ⟨_, rfl, ?_⟩; replace HO_8 := xR HO_8 hb; replace HO_311003 := xR HO_311003 hb; replace HO_318003 := xR HO_318003 hb; replace HO_328003 := xR HO_328003 hb; replace HO_363003 := xR HO_363003 hb; replace BK293 := xB BK293 hb; replace BK310 := xB BK310 hb; replace BK317 := xB BK317 hb; replace BK327 := xB BK327 hb; replace BK362 := xB BK362 hb; replace HB := xS HB hb; (try clear hb); (try clear hb2); (try clear hk); (try clear hi)) | ((with_reducible refine gate_callee (f := 49) rfl ?_); refine goesL_ (some 106) rfl rfl Try.func49 (by kernel_rfl) rfl #[.slice Ao129 t344.length co129, .int .i64 t365] rfl (by (try simp only [m3]); first | done | rfl | (simp only [d2]; rfl)) ?_; (with_reducible refine (laws_heldIntS.calls kj122 _ _ t344 t365 t366 _ ?side1 ?side2 A180.out).mono ?_); (case side1 => exact zC (Kd.R_reads' HO_8.out).2.2); (case side2 => exact (Kd.R_reads' HO_8.out).2.1); rintro e w' ⟨rfl, ⟨nd, rfl⟩⟩; refine ⟨_, rfl, ?_⟩))
                 go_ret; exact ⟨by first | rfl | (simp [errW_none, errW_some] <;> rfl) | (simp [*, errW_none, errW_some] <;> rfl), by repeat (first | (with_reducible first | exact HB.out | apply below_alloc | apply pw_below_drewN | apply below_drew1 | refine below_set ?_ GE293.out | refine below_set ?_ GE310.out | refine below_set ?_ GE317.out | refine below_set ?_ GE327.out | refine below_set ?_ GE362.out) | exact HB.out)⟩
                ·rw [if_neg c181] at H; have c181b0 : decide (t366 < 0) = false := decide_eq_false c181; clear c181
                 by_cases c188 : t366 = t343
                 ·rw [if_pos c188] at H; have c188b0 : (t366 == t343) = true := beq_iff_eq.mpr c188; have c188b1 : (t366 != t343) = false := bne_eq_false_iff_eq.mpr c188; clear c188; obtain rfl := Option.some.inj H; have hnb189 := NB327_293.out; have hnc189 := NB293_327.out; have hnb190 := NB327_310.out; have hnc190 := NB310_327.out; have hnb191 := NB327_317.out; have hnc191 := NB317_327.out; have hnb192 := NB327_362.out; have hnc192 := NB362_327.out; have hcz193_0 : wc.cell? ⟨gb327, 0, none⟩ = some (.int .i64 t318) := b1 BK327 0; have hcz193_1 : wc.cell? ⟨gb327, 1, none⟩ = some (.int .i64 t319) := b1 BK327 1; have hcz193_2 : wc.cell? ⟨gb327, 2, none⟩ = some (.int .i64 t320) := b1 BK327 2; have hcz193_3 : wc.cell? ⟨gb327, 3, none⟩ = some (.slice Ao36 t342.length co36) := b1 BK327 3; have hfz193_0 := blk_frozen BK327.out 0; have hfz193_1 := blk_frozen BK327.out 1; have hfz193_2 := blk_frozen BK327.out 2; have hfz193_3 := blk_frozen BK327.out 3
                  go_wp2_with (first | ((with_reducible refine gate_callee (f := 18) rfl ?_); refine goesL_ (some 101) rfl rfl Try.func18 (by kernel_rfl) rfl #[.agg #[.int .i64 t318, .int .i64 t319, .int .i64 t320, .slice Ao36 t342.length co36], .int .i64 1] rfl (by (try simp only [m3]); first | done | rfl | (simp only [d2]; rfl)) ?_; (with_reducible refine (laws_heldAuto.calls kj122 t318 t319 t320 _ _ t342 1 t365 _ ?side1 ?side2 A172.out).mono ?_); (case side1 => exact zC (Kd.R_reads' HO_328003.out).2.2); (case side2 => exact (Kd.R_reads' HO_328003.out).2.1); rintro e w194 ⟨rfl, hb⟩; refine ⟨_, rfl, ?_⟩; replace HO_8 := xR HO_8 hb; replace HO_311003 := xR HO_311003 hb; replace HO_318003 := xR HO_318003 hb; replace HO_328003 := xR HO_328003 hb; replace HO_363003 := xR HO_363003 hb; replace BK293 := xB BK293 hb; replace BK310 := xB BK310 hb; replace BK317 := xB BK317 hb; replace BK327 := xB BK327 hb; replace BK362 := xB BK362 hb; replace HB := xS HB hb; (try clear hb); (try clear hb2); (try clear hk); (try clear hi)) | ((with_reducible refine gate_callee (f := 49) rfl ?_); refine goesL_ (some 106) rfl rfl Try.func49 (by kernel_rfl) rfl #[.slice Ao129 t344.length co129, .int .i64 t365] rfl (by (try simp only [m3]); first | done | rfl | (simp only [d2]; rfl)) ?_; (with_reducible refine (laws_heldIntS.calls kj122 _ _ t344 t365 t366 _ ?side1 ?side2 A180.out).mono ?_); (case side1 => exact zC (Kd.R_reads' HO_8.out).2.2); (case side2 => exact (Kd.R_reads' HO_8.out).2.1); rintro e w' ⟨rfl, ⟨nd, rfl⟩⟩; refine ⟨_, rfl, ?_⟩))
                  go_ret; exact ⟨by first | rfl | (simp [errW_none, errW_some] <;> rfl) | (simp [*, errW_none, errW_some] <;> rfl), by repeat (first | (with_reducible first | exact HB.out | apply below_alloc | apply pw_below_drewN | apply below_drew1 | refine below_set ?_ GE293.out | refine below_set ?_ GE310.out | refine below_set ?_ GE317.out | refine below_set ?_ GE327.out | refine below_set ?_ GE362.out) | exact HB.out)⟩
                 ·rw [if_neg c188] at H; have c188b0 : (t366 == t343) = false := beq_eq_false_iff_ne.mpr c188; have c188b1 : (t366 != t343) = true := bne_iff_ne.mpr c188; obtain rfl := Option.some.inj H; have hnb195 := NB327_293.out; have hnc195 := NB293_327.out; have hnb196 := NB327_310.out; have hnc196 := NB310_327.out; have hnb197 := NB327_317.out; have hnc197 := NB317_327.out; have hnb198 := NB327_362.out; have hnc198 := NB362_327.out; have hcz199_0 : wc.cell? ⟨gb327, 0, none⟩ = some (.int .i64 t318) := b1 BK327 0; have hcz199_1 : wc.cell? ⟨gb327, 1, none⟩ = some (.int .i64 t319) := b1 BK327 1; have hcz199_2 : wc.cell? ⟨gb327, 2, none⟩ = some (.int .i64 t320) := b1 BK327 2; have hcz199_3 : wc.cell? ⟨gb327, 3, none⟩ = some (.slice Ao36 t342.length co36) := b1 BK327 3; have hfz199_0 := blk_frozen BK327.out 0; have hfz199_1 := blk_frozen BK327.out 1; have hfz199_2 := blk_frozen BK327.out 2; have hfz199_3 := blk_frozen BK327.out 3
                  go_wp2_with (first | ((with_reducible refine gate_callee (f := 18) rfl ?_); refine goesL_ (some 101) rfl rfl Try.func18 (by kernel_rfl) rfl #[.agg #[.int .i64 t318, .int .i64 t319, .int .i64 t320, .slice Ao36 t342.length co36], .int .i64 1] rfl (by (try simp only [m3]); first | done | rfl | (simp only [d2]; rfl)) ?_; (with_reducible refine (laws_heldAuto.calls kj122 t318 t319 t320 _ _ t342 1 t365 _ ?side1 ?side2 A172.out).mono ?_); (case side1 => exact zC (Kd.R_reads' HO_328003.out).2.2); (case side2 => exact (Kd.R_reads' HO_328003.out).2.1); rintro e w200 ⟨rfl, hb⟩; refine ⟨_, rfl, ?_⟩; replace HO_8 := xR HO_8 hb; replace HO_311003 := xR HO_311003 hb; replace HO_318003 := xR HO_318003 hb; replace HO_328003 := xR HO_328003 hb; replace HO_363003 := xR HO_363003 hb; replace BK293 := xB BK293 hb; replace BK310 := xB BK310 hb; replace BK317 := xB BK317 hb; replace BK327 := xB BK327 hb; replace BK362 := xB BK362 hb; replace HB := xS HB hb; (try clear hb); (try clear hb2); (try clear hk); (try clear hi)) | ((with_reducible refine gate_callee (f := 49) rfl ?_); refine goesL_ (some 106) rfl rfl Try.func49 (by kernel_rfl) rfl #[.slice Ao129 t344.length co129, .int .i64 t365] rfl (by (try simp only [m3]); first | done | rfl | (simp only [d2]; rfl)) ?_; (with_reducible refine (laws_heldIntS.calls kj122 _ _ t344 t365 t366 _ ?side1 ?side2 A180.out).mono ?_); (case side1 => exact zC (Kd.R_reads' HO_8.out).2.2); (case side2 => exact (Kd.R_reads' HO_8.out).2.1); rintro e w' ⟨rfl, ⟨nd, rfl⟩⟩; refine ⟨_, rfl, ?_⟩))
                  go_ret; exact ⟨by first | rfl | (simp [errW_none, errW_some] <;> rfl) | (simp [*, errW_none, errW_some] <;> rfl), by repeat (first | (with_reducible first | exact HB.out | apply below_alloc | apply pw_below_drewN | apply below_drew1 | refine below_set ?_ GE293.out | refine below_set ?_ GE310.out | refine below_set ?_ GE317.out | refine below_set ?_ GE327.out | refine below_set ?_ GE362.out) | exact HB.out)⟩
           ·rw [if_neg c120] at H; have c120b0 : (t346 == t343) = false := beq_eq_false_iff_ne.mpr c120; have c120b1 : (t346 != t343) = true := bne_iff_ne.mpr c120; obtain rfl := Option.some.inj H; have hnb201 := NB327_293.out; have hnc201 := NB293_327.out; have hnb202 := NB327_310.out; have hnc202 := NB310_327.out; have hnb203 := NB327_317.out; have hnc203 := NB317_327.out; have hcz204_0 : wc.cell? ⟨gb327, 0, none⟩ = some (.int .i64 t318) := b1 BK327 0; have hcz204_1 : wc.cell? ⟨gb327, 1, none⟩ = some (.int .i64 t319) := b1 BK327 1; have hcz204_2 : wc.cell? ⟨gb327, 2, none⟩ = some (.int .i64 t320) := b1 BK327 2; have hcz204_3 : wc.cell? ⟨gb327, 3, none⟩ = some (.slice Ao36 t321.length co36) := b1 BK327 3; have hfz204_0 := blk_frozen BK327.out 0; have hfz204_1 := blk_frozen BK327.out 1; have hfz204_2 := blk_frozen BK327.out 2; have hfz204_3 := blk_frozen BK327.out 3
            go_wp2_with (first | ((with_reducible refine gate_callee (f := 17) rfl ?_); refine goesL_ (some 66) rfl rfl Try.func17 (by kernel_rfl) rfl #[.agg #[.int .i64 t318, .int .i64 t319, .int .i64 t320, .slice Ao36 t321.length co36], .int .i64 1] rfl (by (try simp only [m3]); first | done | rfl | (simp only [d2]; rfl)) ?_; (with_reducible refine (laws_markAuto.calls kj62 t318 t319 t320 (fun k_ => some k_ = (.slice Ao36 t321.length co36 : Value).ownBlock) (.slice Ao36 t321.length co36) t321 1 t341 t342 w _ ?side1 ?side2 A96.out).mono ?_); (case side1 => repeat (first | (with_reducible first | exact HB.out | apply below_alloc | apply pw_below_drewN | apply below_drew1 | refine below_set ?_ GE293.out | refine below_set ?_ GE310.out | refine below_set ?_ GE317.out | refine below_set ?_ GE327.out) | exact HB.out)); (case side2 => exact Kd.R_tight rfl HO_328003.out); rintro e w205 ⟨rfl, hy0, hb, hkp⟩; refine ⟨_, rfl, ?_⟩; replace HO_5 := Aside0.mk (Kd.R_mono (ok' := fun k_ => some k_ ≠ (v325 : Value).ownBlock) (Kd.R_keptB ((Kd.R_apart' HO_5.out (Kd.R_typed HO_328003.out) (by decide))) hkp (fun k_ hk_ hs_ => (hk_.2) hs_)) (fun k_ hk_ => hk_.1.1)); replace HO_8 := Aside0.mk (Kd.R_mono (ok' := fun k_ => some k_ ≠ (v308 : Value).ownBlock) (Kd.R_keptB ((Kd.R_apart' HO_8.out (Kd.R_typed HO_328003.out) (by decide))) hkp (fun k_ hk_ hs_ => (hk_.2) hs_)) (fun k_ hk_ => hk_.1.1)); replace HO_311003 := Aside0.mk (Kd.R_mono (ok' := fun k_ => some k_ ≠ (.slice Ao29 t338.length co29 : Value).ownBlock ∧ some k_ ≠ (.slice Ao36 t321.length co36 : Value).ownBlock) (Kd.R_keptB (HO_311003.out) hkp (fun k_ hk_ hs_ => (hk_.2) hs_)) (fun k_ hk_ => ⟨hk_.1.1, hk_.1.2⟩)); replace HO_318003 := Aside0.mk (Kd.R_mono (ok' := fun k_ => some k_ ≠ (.slice Ao22 t304.length co22 : Value).ownBlock ∧ some k_ ≠ (.slice Ao36 t321.length co36 : Value).ownBlock) (Kd.R_keptB (HO_318003.out) hkp (fun k_ hk_ hs_ => (hk_.2) hs_)) (fun k_ hk_ => ⟨hk_.1.1, hk_.1.2⟩)); replace BK293 := Aside0.mk (blk_kept (zB BK293.out) hkp (fun hs_ => (fun e_ => (Kd.R_ne HO_328003.out BK293.out (by decide)) e_) hs_)); replace BK310 := Aside0.mk (blk_kept (zB BK310.out) hkp (fun hs_ => (fun e_ => (Kd.R_ne HO_328003.out BK310.out (by decide)) e_) hs_)); replace BK317 := Aside0.mk (blk_kept (zB BK317.out) hkp (fun hs_ => (fun e_ => (Kd.R_ne HO_328003.out BK317.out (by decide)) e_) hs_)); replace BK327 := Aside0.mk (blk_kept (zB BK327.out) hkp (fun hs_ => (fun e_ => (Kd.R_ne HO_328003.out BK327.out (by decide)) e_) hs_)); replace HO_328003 := Aside0.mk (Kd.R_reok rfl hy0 (fun k_ e_ => HO_328003.out.1 k_ e_)); replace HB := Aside0.mk (hb); (try clear hb); (try clear hkp); (try clear hy0); obtain ⟨Ao206, co206, eo206⟩ := Kd.R_slice HO_8.out; subst eo206) | ((with_reducible refine gate_callee (f := 48) rfl ?_); refine goesL_ (some 69) rfl rfl Try.func48 (by kernel_rfl) rfl #[.slice Ao206 t324.length co206, .int .i64 t341] rfl (by (try simp only [m3]); first | done | rfl | (simp only [d2]; rfl)) ?_; (with_reducible refine (laws_markIntS.calls kj62 (fun k_ => some k_ = (.slice Ao206 t324.length co206 : Value).ownBlock) (.slice Ao206 t324.length co206) t324 t341 t343 t344 w _ ?side1 ?side2 A97.out).mono ?_); (case side1 => repeat (first | (with_reducible first | exact HB.out | apply below_alloc | apply pw_below_drewN | apply below_drew1 | refine below_set ?_ GE293.out | refine below_set ?_ GE310.out | refine below_set ?_ GE317.out | refine below_set ?_ GE327.out) | exact HB.out)); (case side2 => exact Kd.R_tight rfl HO_8.out); rintro e w207 ⟨rfl, hy0, hb, hkp⟩; refine ⟨_, rfl, ?_⟩; replace HO_5 := Aside0.mk (Kd.R_mono (ok' := fun k_ => some k_ ≠ (.slice Ao206 t324.length co206 : Value).ownBlock) (Kd.R_keptB (HO_5.out) hkp (fun k_ hk_ hs_ => (hk_) hs_)) (fun k_ hk_ => hk_.1)); replace HO_311003 := Aside0.mk (Kd.R_mono (ok' := fun k_ => some k_ ≠ (.slice Ao29 t338.length co29 : Value).ownBlock ∧ some k_ ≠ (.slice Ao36 t321.length co36 : Value).ownBlock) (Kd.R_keptB ((Kd.R_apart' HO_311003.out (Kd.R_typed HO_8.out) (by decide))) hkp (fun k_ hk_ hs_ => (hk_.2) hs_)) (fun k_ hk_ => ⟨hk_.1.1.1, hk_.1.1.2⟩)); replace HO_318003 := Aside0.mk (Kd.R_mono (ok' := fun k_ => some k_ ≠ (.slice Ao22 t304.length co22 : Value).ownBlock ∧ some k_ ≠ (.slice Ao36 t321.length co36 : Value).ownBlock) (Kd.R_keptB ((Kd.R_apart' HO_318003.out (Kd.R_typed HO_8.out) (by decide))) hkp (fun k_ hk_ hs_ => (hk_.2) hs_)) (fun k_ hk_ => ⟨hk_.1.1.1, hk_.1.1.2⟩)); replace HO_328003 := Aside0.mk (Kd.R_mono (ok' := fun k_ => some k_ ≠ (.slice Ao22 t304.length co22 : Value).ownBlock ∧ some k_ ≠ (.slice Ao29 t338.length co29 : Value).ownBlock) (Kd.R_keptB ((Kd.R_apart' HO_328003.out (Kd.R_typed HO_8.out) (by decide))) hkp (fun k_ hk_ hs_ => (hk_.2) hs_)) (fun k_ hk_ => ⟨hk_.1.1.1, hk_.1.1.2⟩)); replace BK293 := Aside0.mk (blk_kept (zB BK293.out) hkp (fun hs_ => (fun e_ => (Kd.R_ne HO_8.out BK293.out (by decide)) e_) hs_)); replace BK310 := Aside0.mk (blk_kept (zB BK310.out) hkp (fun hs_ => (fun e_ => (Kd.R_ne HO_8.out BK310.out (by decide)) e_) hs_)); replace BK317 := Aside0.mk (blk_kept (zB BK317.out) hkp (fun hs_ => (fun e_ => (Kd.R_ne HO_8.out BK317.out (by decide)) e_) hs_)); replace BK327 := Aside0.mk (blk_kept (zB BK327.out) hkp (fun hs_ => (fun e_ => (Kd.R_ne HO_8.out BK327.out (by decide)) e_) hs_)); replace HO_8 := Aside0.mk (Kd.R_reok rfl hy0 (fun k_ e_ => HO_8.out.1 k_ e_)); replace HB := Aside0.mk (hb); (try clear hb); (try clear hkp); (try clear hy0); have hcz208_0 : w207.cell? ⟨gb327, 0, none⟩ = some (.int .i64 t318) := b1 BK327 0; have hcz208_1 : w207.cell? ⟨gb327, 1, none⟩ = some (.int .i64 t319) := b1 BK327 1; have hcz208_2 : w207.cell? ⟨gb327, 2, none⟩ = some (.int .i64 t320) := b1 BK327 2; have hcz208_3 : w207.cell? ⟨gb327, 3, none⟩ = some (.slice Ao36 t321.length co36) := b1 BK327 3; have hfz208_0 := blk_frozen BK327.out 0; have hfz208_1 := blk_frozen BK327.out 1; have hfz208_2 := blk_frozen BK327.out 2; have hfz208_3 := blk_frozen BK327.out 3) | ((with_reducible refine gate_callee (f := 18) rfl ?_); refine goesL_ (some 72) rfl rfl Try.func18 (by kernel_rfl) rfl #[.agg #[.int .i64 t318, .int .i64 t319, .int .i64 t320, .slice Ao36 t342.length co36], .int .i64 1] rfl (by (try simp only [m3]); first | done | (rw [show t342.length = t321.length from (Kd.R_reads' HO_328003.out).1.symm] <;> rfl) | rfl | (simp only [d2]; rfl)) ?_; (with_reducible refine (laws_heldAuto.calls kj62 t318 t319 t320 _ _ t342 1 t345 _ ?side1 ?side2 A98.out).mono ?_); (case side1 => exact zC (Kd.R_reads' HO_328003.out).2.2); (case side2 => rw [show t342.length = t321.length from (Kd.R_reads' HO_328003.out).1.symm]; exact (Kd.R_reads' HO_328003.out).2.1); rintro e w209 ⟨rfl, hb⟩; refine ⟨_, rfl, ?_⟩; replace HO_5 := xR HO_5 hb; replace HO_8 := xR HO_8 hb; replace HO_311003 := xR HO_311003 hb; replace HO_318003 := xR HO_318003 hb; replace HO_328003 := xR HO_328003 hb; replace BK293 := xB BK293 hb; replace BK310 := xB BK310 hb; replace BK317 := xB BK317 hb; replace BK327 := xB BK327 hb; replace HB := xS HB hb; (try clear hb); (try clear hb2); (try clear hk); (try clear hi)) | ((with_reducible refine gate_callee (f := 49) rfl ?_); refine goesL_ (some 77) rfl rfl Try.func49 (by kernel_rfl) rfl #[.slice Ao206 t344.length co206, .int .i64 t345] rfl (by (try simp only [m3]); first | done | (rw [show t344.length = t324.length from (Kd.R_reads' HO_8.out).1.symm] <;> rfl) | rfl | (simp only [d2]; rfl)) ?_; (with_reducible refine (laws_heldIntS.calls kj62 _ _ t344 t345 t346 _ ?side1 ?side2 A109.out).mono ?_); (case side1 => exact zC (Kd.R_reads' HO_8.out).2.2); (case side2 => rw [show t344.length = t324.length from (Kd.R_reads' HO_8.out).1.symm]; exact (Kd.R_reads' HO_8.out).2.1); rintro e w' ⟨rfl, ⟨nd, rfl⟩⟩; refine ⟨_, rfl, ?_⟩))
            go_ret; exact ⟨by first | rfl | (simp [errW_none, errW_some] <;> rfl) | (simp [*, errW_none, errW_some] <;> rfl), by repeat (first | (with_reducible first | exact HB.out | apply below_alloc | apply pw_below_drewN | apply below_drew1 | refine below_set ?_ GE293.out | refine below_set ?_ GE310.out | refine below_set ?_ GE317.out | refine below_set ?_ GE327.out) | exact HB.out)⟩
     ·replace c61 := Bool.eq_false_iff.mpr c61; subst c61
      have H1 : (some false) = some r := by rw [if_neg (show ¬ (false = true) by decide)] at H; exact H
      clear H; have H := H1; clear H1; obtain rfl := Option.some.inj H
      try go_wp2
      replace HO_5 := Aside0.mk (Kd.R_drew HO_5.out); replace HO_8 := Aside0.mk (Kd.R_drew HO_8.out); replace HO_311003 := Aside0.mk (Kd.R_drew HO_311003.out); replace HO_318003 := Aside0.mk (Kd.R_drew HO_318003.out); replace HO_328003 := Aside0.mk (Kd.R_drew HO_328003.out); replace BK293 := Aside0.mk (blk_drew BK293.out); replace BK310 := Aside0.mk (blk_drew BK310.out); replace BK317 := Aside0.mk (blk_drew BK317.out); replace BK327 := Aside0.mk (blk_drew BK327.out); replace HB := Aside0.mk (below_drew1 HB.out); refine start_ (n := 5) (S := fun w' => w'.cell? ⟨gb317, 0, none⟩ = some (.int .i64 t311) ∧ w'.cell? ⟨gb317, 1, none⟩ = some (.int .i64 t312) ∧ w'.cell? ⟨gb317, 2, none⟩ = some (.int .i64 t313) ∧ w'.cell? ⟨gb317, 3, none⟩ = some (.slice Ao29 t314.length co29) ∧ w'.cell? ⟨gb293, 0, none⟩ = some (.int .i64 a0_0) ∧ w'.cell? ⟨gb293, 1, none⟩ = some (.int .i64 a0_1) ∧ w'.cell? ⟨gb293, 2, none⟩ = some (.int .i64 a0_2) ∧ w'.cell? ⟨gb293, 3, none⟩ = some (.slice A0_3 l0_3.length c0_3)) (ds := []) #[false, false, false, false, false] (by kernel_rfl) rfl rfl ⟨b1 BK317 0, b1 BK317 1, b1 BK317 2, b1 BK317 3, b1 BK293 0, b1 BK293 1, b1 BK293 2, b1 BK293 3⟩ (fun hHeld => ?_); generalize wc.drew = w210 at HO_5 HO_8 HO_311003 HO_318003 HO_328003 BK293 BK310 BK317 BK327 HB hHeld ⊢; refine take_ (i := 0) (N := some 42) (v := ?_) (a' := ?_) #[true, false, false, false, false] rfl rfl (by kernel_rfl) (fun _ _ _ h => h) (Or.inl ⟨by rfl, ?_⟩) hHeld ?_ ?_; rotate_left
      ·rintro w' ⟨s0, s1, s2, s3, s4, s5, s6, s7⟩; go_simp; with_reducible rfl
      rotate_left
      ·simp only [Act.put, q5]; rfl
      refine take_ (i := 1) (N := some 43) (v := ?_) (a' := ?_) #[true, true, false, false, false] rfl rfl (by kernel_rfl) (fun _ _ _ h => h) (Or.inl ⟨by rfl, ?_⟩) hHeld ?_ ?_; rotate_left
      ·rintro w' ⟨s0, s1, s2, s3, s4, s5, s6, s7⟩; go_simp; with_reducible rfl
      rotate_left
      ·simp only [Act.put, q5]; rfl
      refine one_ (i := 2) (N := some 44) #[true, true, true, false, false] rfl rfl (by kernel_rfl) (by decide) (fun K hK => ?_); refine goes_ Try.func21 (by kernel_rfl) rfl #[.agg #[.int .i64 a0_0, .int .i64 a0_1, .int .i64 a0_2, .slice A0_3 l0_3.length c0_3]] (by rfl) rfl rfl (by (try simp only [m3]); first | done | rfl | (simp only [d2]; rfl)) ?_
      with_reducible refine (laws_toAuto.calls kj10 a0_0 a0_1 a0_2 _ _ l0_3 t330 t331 t332 t333 _ ?side1 ?side2 A59.out).mono ?_
      (case side1 => exact zC (Kd.C_below HR0_3.out HB.out))
      (case side2 => exact HC0_3.out)
      rintro e w211 ⟨v334, rfl, ho0, hb⟩; refine ⟨_, rfl, ?_⟩; replace HO_5 := xR HO_5 hb; replace HO_8 := xR HO_8 hb; have HO335 := Aside0.mk (Kd.R_lower (Kd.R_new' (Kd.R_new' (Kd.R_new' ho0 (Kd.R_lt (zR HO_311003.out))) (Kd.R_lt (zR HO_318003.out))) (Kd.R_lt (zR HO_328003.out))) (below_size (zS HB.out))); replace HO_311003 := xE HO_311003 ho0 hb; replace HO_318003 := xE HO_318003 ho0 hb; replace HO_328003 := xE HO_328003 ho0 hb; replace BK293 := xB BK293 hb; replace BK310 := xB BK310 hb; replace BK317 := xB BK317 hb; replace BK327 := xB BK327 hb; replace HB := xS HB hb
      (try clear hb)
      (try clear hb2)
      (try clear hk)
      (try clear hi)
      (try clear ho0)
      obtain ⟨Ao212, co212, eo212⟩ := Kd.R_slice HO335.out
      (first | subst eo212 | (injection eo212 with f1_ f2_ f3_; have f4_ := f1_.symm; have f5_ := f3_.symm; clear f1_ f2_ f3_; subst f4_; subst f5_))
      refine hK.out _ _ ⟨b1 BK317 0, b1 BK317 1, b1 BK317 2, b1 BK317 3, b1 BK293 0, b1 BK293 1, b1 BK293 2, b1 BK293 3⟩ (fun hHeld => ?_); clear hK K; refine norm_ (a' := ?_) ?_ ?_; rotate_left
      ·show Act.put _ (some 44) _ = _; simp only [Act.put, q5]; rfl
      refine one_ (i := 3) (N := some 45) #[true, true, true, true, false] rfl rfl (by kernel_rfl) (by decide) (fun K hK => ?_); refine goes_ Try.func16 (by kernel_rfl) rfl #[.agg #[.int .i64 t311, .int .i64 t312, .int .i64 t313, .slice Ao29 t314.length co29], .agg #[.int .i64 t330, .int .i64 t331, .int .i64 t332, .slice Ao212 t333.length co212]] (by rfl) rfl rfl (by (try simp only [m3]); first | done | rfl | (simp only [d2]; rfl)) ?_
      with_reducible refine (laws_eqAuto.calls kj10 t311 t312 t313 _ _ t314 t330 t331 t332 _ _ t333 false _ ?side1 ?side2 ?side3 ?side4 A60.out).mono ?_
      (case side1 => exact zC (Kd.R_reads' HO_318003.out).2.2)
      (case side2 => exact (Kd.R_reads' HO_318003.out).2.1)
      (case side3 => exact zC (Kd.R_reads' HO335.out).2.2)
      (case side4 => exact (Kd.R_reads' HO335.out).2.1)
      rintro e w213 ⟨rfl, hb⟩; refine ⟨_, rfl, ?_⟩; replace HO_5 := xR HO_5 hb; replace HO_8 := xR HO_8 hb; replace HO_311003 := xR HO_311003 hb; replace HO_318003 := xR HO_318003 hb; replace HO_328003 := xR HO_328003 hb; replace HO335 := xR HO335 hb; replace BK293 := xB BK293 hb; replace BK310 := xB BK310 hb; replace BK317 := xB BK317 hb; replace BK327 := xB BK327 hb; replace HB := xS HB hb
      (try clear hb)
      (try clear hb2)
      (try clear hk)
      (try clear hi)
      refine hK.out _ _ ⟨b1 BK317 0, b1 BK317 1, b1 BK317 2, b1 BK317 3, b1 BK293 0, b1 BK293 1, b1 BK293 2, b1 BK293 3⟩ (fun hHeld => ?_); clear hK K; refine norm_ (a' := ?_) ?_ ?_; rotate_left
      ·show Act.put _ (some 45) _ = _; simp only [Act.put, q5]; rfl
      refine pure_ (i := 4) (N := some 46) (v := ?_) (a' := ?_) #[true, true, true, true, true] rfl rfl (by kernel_rfl) (fun _ _ _ h => h) (Or.inl ⟨by rfl, ?_⟩) ?_ ?_; rotate_left; (intro w'; go_simp; with_reducible rfl); rotate_left; (simp only [Act.put, q5]; rfl)
      refine done_ (by kernel_rfl) ?_
      try go_wp2
      go_ret; exact ⟨by first | rfl | (simp [errW_none, errW_some] <;> rfl) | (simp [*, errW_none, errW_some] <;> rfl), by repeat (first | (with_reducible first | exact HB.out | apply below_alloc | apply pw_below_drewN | apply below_drew1 | refine below_set ?_ GE293.out | refine below_set ?_ GE310.out | refine below_set ?_ GE317.out | refine below_set ?_ GE327.out) | exact HB.out)⟩

/-- THE ONE PURE STATEMENT of laws_FnExactAutoTrim. -/
def laws_FnExactAutoTrim.Pure : Prop := ∀ (a0_0 : Int) (a0_1 : Int) (a0_2 : Int) (l0_3 : List (S115)), (Lit.int .i64 a0_0).wf = true → (Lit.int .i64 a0_1).wf = true → (Lit.int .i64 a0_2).wf = true → l0_3.length ≤ 9223372036854775807 → (∀ x ∈ l0_3, ((Lit.int .i64 x.f0).wf = true ∧ (Lit.int .i64 x.f1).wf = true ∧ (Lit.int .i64 x.f2).wf = true)) → ∃ k, laws_FnExactAutoTrim.f k a0_0 a0_1 a0_2 l0_3 = some true

end Go.Proofs.Ytlallflpicgcmaa.MFnExactAutoTrim
