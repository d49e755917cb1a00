-- Written by a program of this session, out of Lean's print of the translation. Not trusted: Lean checks it.
import Derived.Test.YtnflbjdmbaaokaaMFnExactGenDegenx0
import Derived.Test.YtnflbjdmbaaokaaMFnExactGenDegenx7
import Derived.Test.YtnflbjdmbaaokaaMFnExactGenDegenx8
import Derived.Test.YtnflbjdmbaaokaaMFnExactGenDegenx9
import Derived.Test.YtnflbjdmbaaokaaMFnExactGenDegenx10
namespace Go.Proofs.Ytnflbjdmbaaokaa.MFnExactGenDegen
open Go.RowKit Go.Proofs.YtnflbjdmbaaokaaW.PrintWords Go.Proofs.YtnflbjdmbaaokaaW.PrintLast Go.Proofs.YtnflbjdmbaaokaaW.PrintMore Go.Proofs.Ytnflbjdmbaaokaa.Short6
attribute [local go_sem] max2_int min2_int max_two min_two max_three min_three max_four min_four   -- for this text's walks alone
set_option linter.unusedVariables false
set_option linter.unusedSimpArgs false

section
open Go.Proofs.Ytnflbjdmbaaokaa.Short2.T
abbrev impl_GenDegen.bl0 : Array Bool := #[f, f, f, f, f, f, f, f, f]
abbrev impl_GenDegen.bl1 : Array Bool := #[t, f, f, f, f, f, f, f, f]
abbrev impl_GenDegen.bl2 : Array Bool := #[t, f, t, f, f, f, f, f, f]
abbrev impl_GenDegen.bl3 : Array Bool := #[t, f, t, t, f, f, f, f, f]
abbrev impl_GenDegen.bl4 : Array Bool := #[t, f, t, t, t, f, f, f, f]
abbrev impl_GenDegen.bl5 : Array Bool := #[t, t, t, t, t, f, f, f, f]
abbrev impl_GenDegen.bl6 : Array Bool := #[t, t, t, t, t, t, f, f, f]
abbrev impl_GenDegen.bl7 : Array Bool := #[t, t, t, t, t, t, t, f, f]
abbrev impl_GenDegen.bl8 : Array Bool := #[t, t, t, t, t, t, t, t, f]
abbrev impl_GenDegen.bl9 : Array Bool := #[t, t, t, t, t, t, t, t, t]
end
/-! ### impl_GenDegen: function 7 -/
mutual
def impl_GenDegen.j2 : Nat → Int → Int → Int → Int → Int → List (S46) → Int → Int → Int → Option (Int × Int × Int × (List (S48)) × Bool)
 | 0, _, _, _, _, _, _, _, _, _ => none
 | k + 1, x5, x286000, x286001, x286002, x286003, x286004, x289000, x289001, x289002 => impl_GenDegen.l1 k x5 x286004 (x286004.length : Int) 0 x286000 x286001 x286002 x286003 x286004 x289000 x289001 x289002 ([] : List (S48))
def impl_GenDegen.l1 : Nat → Int → List (S46) → Int → Int → Int → Int → Int → Int → List (S46) → Int → Int → Int → List (S48) → Option (Int × Int × Int × (List (S48)) × Bool)
 | 0, _, _, _, _, _, _, _, _, _, _, _, _, _ => none
 | k + 1, x5, x66, x67, x68, x286000, x286001, x286002, x286003, x286004, x289000, x289001, x289002, x289003 => if x68 < x67 then (if 0 ≤ x68 then (if x68 < (x66.length : Int) then (impl_GenDegen.l2 k x5 x66 x67 x68 x5 0 x286000 x286001 x286002 x286003 x286004 x289000 x289001 x289002 x289003 ((rd_T46 x66 x68).f0) ((rd_T46 x66 x68).f1) ((rd_T46 x66 x68).f2) ((rd_T46 x66 x68).f3)) else (none)) else (none)) else ((impl_ordered.f k x289003).bind fun t294 => ((impl_rightAuto.f k x289000 x289001 x289002 t294).bind fun bt297 => (some (bt297.1, bt297.2.1, bt297.2.2.1, bt297.2.2.2.1, bt297.2.2.2.2))))
def impl_GenDegen.l2 : Nat → Int → List (S46) → Int → Int → Int → Int → Int → Int → Int → Int → List (S46) → Int → Int → Int → List (S48) → Int → Int → Int → Int → Option (Int × Int × Int × (List (S48)) × Bool)
 | 0, _, _, _, _, _, _, _, _, _, _, _, _, _, _, _, _, _, _, _ => none
 | k + 1, x5, x66, x67, x68, x72, x73, x286000, x286001, x286002, x286003, x286004, x289000, x289001, x289002, x289003, x306000, x306001, x306002, x306003 => if x73 < x72 then ((impl_waitFor.f k x306003 x73 x286003).bind fun bt306 => (if x289003.length < 4398046511104 then (impl_GenDegen.l2 k x5 x66 x67 x68 x72 (wrap64 (x73 + 1)) x286000 x286001 x286002 x286003 x286004 x289000 x289001 x289002 (x289003 ++ [(⟨wrap64 ((wrap64 (x306000 * x5)) + x73), x306001, wrap64 ((wrap64 (x306002 * x5)) + bt306.1), bt306.2⟩ : S48)]) x306000 x306001 x306002 x306003) else (none))) else (impl_GenDegen.l1 k x5 x66 x67 (wrap64 (x68 + 1)) x286000 x286001 x286002 x286003 x286004 x289000 x289001 x289002 x289003)
def impl_GenDegen.j0 : Nat → Int → Bool → Int → Int → Int → Int → List (S46) → Int → Int → Int → Option (Int × Int × Int × (List (S48)) × Bool)
 | 0, _, _, _, _, _, _, _, _, _, _ => none
 | k + 1, x5, x46, x286000, x286001, x286002, x286003, x286004, x289000, x289001, x289002 => if x46 = true then (some (0, 0, 0, ([] : List (S48)), false)) else ((impl_SetList.f k x286002).bind fun t289 => (impl_GenDegen.l0 k x5 t289 (t289.length : Int) 0 x286000 x286001 x286002 x286003 x286004 x289000 x289001 x289002))
def impl_GenDegen.l0 : Nat → Int → List Int → Int → Int → Int → Int → Int → Int → List (S46) → Int → Int → Int → Option (Int × Int × Int × (List (S48)) × Bool)
 | 0, _, _, _, _, _, _, _, _, _, _, _, _ => none
 | k + 1, x5, x50, x51, x52, x286000, x286001, x286002, x286003, x286004, x289000, x289001, x289002 => if x52 < x51 then (if 0 ≤ x52 then (if x52 < (x50.length : Int) then ((impl_only.f (wrap64 ((rd x50 x52) * x5))).bind fun t293 => (impl_GenDegen.l0 k x5 x50 x51 (wrap64 (x52 + 1)) x286000 x286001 x286002 x286003 x286004 x289000 x289001 (Go.bits .or .i64 x289002 t293))) else (none)) else (none)) else (impl_GenDegen.j2 k x5 x286000 x286001 x286002 x286003 x286004 x289000 x289001 x289002)
end
def impl_GenDegen.f (k : Nat) (a0_0 : Int) (a0_1 : Int) (a0_2 : Int) (a0_3 : Int) (l0_4 : List (S46)) : Option (Int × Int × Int × (List (S48)) × Bool) := (impl_GenOk.f k a0_0 a0_1 a0_2 a0_3 l0_4).bind fun t287 => (if t287 = true then (if a0_3 > 0 then (if (wrap64 (a0_1 * (mx a0_3 1))) > 31 then (impl_GenDegen.j0 k (mx a0_3 1) true a0_0 a0_1 a0_2 a0_3 l0_4 a0_0 (wrap64 (a0_1 * (mx a0_3 1))) 0) else (impl_GenDegen.j0 k (mx a0_3 1) (decide ((wrap64 ((l0_4.length : Int) * (mx a0_3 1))) > 2000)) a0_0 a0_1 a0_2 a0_3 l0_4 a0_0 (wrap64 (a0_1 * (mx a0_3 1))) 0)) else (impl_GenDegen.j2 k (mx a0_3 1) a0_0 a0_1 a0_2 a0_3 l0_4 a0_0 a0_1 a0_2)) else (some (0, 0, 0, ([] : List (S48)), false)))
theorem impl_GenDegen.mono_l : ∀ k, (∀ y0 y1 y2 y3 y4 y5 y6 y7 y8, LeO (impl_GenDegen.j2 k y0 y1 y2 y3 y4 y5 y6 y7 y8) (impl_GenDegen.j2 (k + 1) y0 y1 y2 y3 y4 y5 y6 y7 y8)) ∧ (∀ y0 y1 y2 y3 y4 y5 y6 y7 y8 y9 y10 y11 y12, LeO (impl_GenDegen.l1 k y0 y1 y2 y3 y4 y5 y6 y7 y8 y9 y10 y11 y12) (impl_GenDegen.l1 (k + 1) y0 y1 y2 y3 y4 y5 y6 y7 y8 y9 y10 y11 y12)) ∧ (∀ y0 y1 y2 y3 y4 y5 y6 y7 y8 y9 y10 y11 y12 y13 y14 y15 y16 y17 y18, LeO (impl_GenDegen.l2 k y0 y1 y2 y3 y4 y5 y6 y7 y8 y9 y10 y11 y12 y13 y14 y15 y16 y17 y18) (impl_GenDegen.l2 (k + 1) y0 y1 y2 y3 y4 y5 y6 y7 y8 y9 y10 y11 y12 y13 y14 y15 y16 y17 y18)) ∧ (∀ y0 y1 y2 y3 y4 y5 y6 y7 y8 y9, LeO (impl_GenDegen.j0 k y0 y1 y2 y3 y4 y5 y6 y7 y8 y9) (impl_GenDegen.j0 (k + 1) y0 y1 y2 y3 y4 y5 y6 y7 y8 y9)) ∧ (∀ y0 y1 y2 y3 y4 y5 y6 y7 y8 y9 y10 y11, LeO (impl_GenDegen.l0 k y0 y1 y2 y3 y4 y5 y6 y7 y8 y9 y10 y11) (impl_GenDegen.l0 (k + 1) y0 y1 y2 y3 y4 y5 y6 y7 y8 y9 y10 y11))
 | 0 => ⟨fun _ _ _ _ _ _ _ _ _ r h => by simp [impl_GenDegen.j2] at h, fun _ _ _ _ _ _ _ _ _ _ _ _ _ r h => by simp [impl_GenDegen.l1] at h, fun _ _ _ _ _ _ _ _ _ _ _ _ _ _ _ _ _ _ _ r h => by simp [impl_GenDegen.l2] at h, fun _ _ _ _ _ _ _ _ _ _ r h => by simp [impl_GenDegen.j0] at h, fun _ _ _ _ _ _ _ _ _ _ _ _ r h => by simp [impl_GenDegen.l0] at h⟩
 | k + 1 => by
  obtain ⟨ih0, ih1, ih2, ih3, ih4⟩ := impl_GenDegen.mono_l k
  refine ⟨?_, ?_, ?_, ?_, ?_⟩
  ·intro y0 y1 y2 y3 y4 y5 y6 y7 y8
   unfold impl_GenDegen.j2
   repeat' first
   | (with_reducible exact ih0 _ _ _ _ _ _ _ _ _)
   | (with_reducible exact ih1 _ _ _ _ _ _ _ _ _ _ _ _ _)
   | (with_reducible exact ih2 _ _ _ _ _ _ _ _ _ _ _ _ _ _ _ _ _ _ _)
   | (with_reducible exact ih3 _ _ _ _ _ _ _ _ _ _)
   | (with_reducible exact ih4 _ _ _ _ _ _ _ _ _ _ _ _)
   | (with_reducible exact impl_GenOk.mono _ _ _ _ _ _)
   | (with_reducible exact impl_SetList.mono _ _)
   | (with_reducible exact impl_ordered.mono _ _)
   | (with_reducible exact impl_rightAuto.mono _ _ _ _ _)
   | (with_reducible exact impl_waitFor.mono _ _ _ _)
   | (with_reducible exact LeO.refl _)
   | (with_reducible exact LeO.none _)
   | (with_reducible refine LeO.ite ?_ ?_)
   | (with_reducible refine LeO.bind ?_ (fun _ => ?_))
   | exact ih0 _ _ _ _ _ _ _ _ _
   | exact ih1 _ _ _ _ _ _ _ _ _ _ _ _ _
   | exact ih2 _ _ _ _ _ _ _ _ _ _ _ _ _ _ _ _ _ _ _
   | exact ih3 _ _ _ _ _ _ _ _ _ _
   | exact ih4 _ _ _ _ _ _ _ _ _ _ _ _
   | exact impl_GenOk.mono _ _ _ _ _ _
   | exact impl_SetList.mono _ _
   | exact impl_ordered.mono _ _
   | exact impl_rightAuto.mono _ _ _ _ _
   | exact impl_waitFor.mono _ _ _ _
   | exact LeO.none _
   | refine LeO.ite ?_ ?_
   | refine LeO.bind ?_ (fun _ => ?_)
  ·intro y0 y1 y2 y3 y4 y5 y6 y7 y8 y9 y10 y11 y12
   unfold impl_GenDegen.l1
   repeat' first
   | (with_reducible exact ih0 _ _ _ _ _ _ _ _ _)
   | (with_reducible exact ih1 _ _ _ _ _ _ _ _ _ _ _ _ _)
   | (with_reducible exact ih2 _ _ _ _ _ _ _ _ _ _ _ _ _ _ _ _ _ _ _)
   | (with_reducible exact ih3 _ _ _ _ _ _ _ _ _ _)
   | (with_reducible exact ih4 _ _ _ _ _ _ _ _ _ _ _ _)
   | (with_reducible exact impl_GenOk.mono _ _ _ _ _ _)
   | (with_reducible exact impl_SetList.mono _ _)
   | (with_reducible exact impl_ordered.mono _ _)
   | (with_reducible exact impl_rightAuto.mono _ _ _ _ _)
   | (with_reducible exact impl_waitFor.mono _ _ _ _)
   | (with_reducible exact LeO.refl _)
   | (with_reducible exact LeO.none _)
   | (with_reducible refine LeO.ite ?_ ?_)
   | (with_reducible refine LeO.bind ?_ (fun _ => ?_))
   | exact ih0 _ _ _ _ _ _ _ _ _
   | exact ih1 _ _ _ _ _ _ _ _ _ _ _ _ _
   | exact ih2 _ _ _ _ _ _ _ _ _ _ _ _ _ _ _ _ _ _ _
   | exact ih3 _ _ _ _ _ _ _ _ _ _
   | exact ih4 _ _ _ _ _ _ _ _ _ _ _ _
   | exact impl_GenOk.mono _ _ _ _ _ _
   | exact impl_SetList.mono _ _
   | exact impl_ordered.mono _ _
   | exact impl_rightAuto.mono _ _ _ _ _
   | exact impl_waitFor.mono _ _ _ _
   | exact LeO.none _
   | refine LeO.ite ?_ ?_
   | refine LeO.bind ?_ (fun _ => ?_)
  ·intro y0 y1 y2 y3 y4 y5 y6 y7 y8 y9 y10 y11 y12 y13 y14 y15 y16 y17 y18
   unfold impl_GenDegen.l2
   repeat' first
   | (with_reducible exact ih0 _ _ _ _ _ _ _ _ _)
   | (with_reducible exact ih1 _ _ _ _ _ _ _ _ _ _ _ _ _)
   | (with_reducible exact ih2 _ _ _ _ _ _ _ _ _ _ _ _ _ _ _ _ _ _ _)
   | (with_reducible exact ih3 _ _ _ _ _ _ _ _ _ _)
   | (with_reducible exact ih4 _ _ _ _ _ _ _ _ _ _ _ _)
   | (with_reducible exact impl_GenOk.mono _ _ _ _ _ _)
   | (with_reducible exact impl_SetList.mono _ _)
   | (with_reducible exact impl_ordered.mono _ _)
   | (with_reducible exact impl_rightAuto.mono _ _ _ _ _)
   | (with_reducible exact impl_waitFor.mono _ _ _ _)
   | (with_reducible exact LeO.refl _)
   | (with_reducible exact LeO.none _)
   | (with_reducible refine LeO.ite ?_ ?_)
   | (with_reducible refine LeO.bind ?_ (fun _ => ?_))
   | exact ih0 _ _ _ _ _ _ _ _ _
   | exact ih1 _ _ _ _ _ _ _ _ _ _ _ _ _
   | exact ih2 _ _ _ _ _ _ _ _ _ _ _ _ _ _ _ _ _ _ _
   | exact ih3 _ _ _ _ _ _ _ _ _ _
   | exact ih4 _ _ _ _ _ _ _ _ _ _ _ _
   | exact impl_GenOk.mono _ _ _ _ _ _
   | exact impl_SetList.mono _ _
   | exact impl_ordered.mono _ _
   | exact impl_rightAuto.mono _ _ _ _ _
   | exact impl_waitFor.mono _ _ _ _
   | exact LeO.none _
   | refine LeO.ite ?_ ?_
   | refine LeO.bind ?_ (fun _ => ?_)
  ·intro y0 y1 y2 y3 y4 y5 y6 y7 y8 y9
   unfold impl_GenDegen.j0
   repeat' first
   | (with_reducible exact ih0 _ _ _ _ _ _ _ _ _)
   | (with_reducible exact ih1 _ _ _ _ _ _ _ _ _ _ _ _ _)
   | (with_reducible exact ih2 _ _ _ _ _ _ _ _ _ _ _ _ _ _ _ _ _ _ _)
   | (with_reducible exact ih3 _ _ _ _ _ _ _ _ _ _)
   | (with_reducible exact ih4 _ _ _ _ _ _ _ _ _ _ _ _)
   | (with_reducible exact impl_GenOk.mono _ _ _ _ _ _)
   | (with_reducible exact impl_SetList.mono _ _)
   | (with_reducible exact impl_ordered.mono _ _)
   | (with_reducible exact impl_rightAuto.mono _ _ _ _ _)
   | (with_reducible exact impl_waitFor.mono _ _ _ _)
   | (with_reducible exact LeO.refl _)
   | (with_reducible exact LeO.none _)
   | (with_reducible refine LeO.ite ?_ ?_)
   | (with_reducible refine LeO.bind ?_ (fun _ => ?_))
   | exact ih0 _ _ _ _ _ _ _ _ _
   | exact ih1 _ _ _ _ _ _ _ _ _ _ _ _ _
   | exact ih2 _ _ _ _ _ _ _ _ _ _ _ _ _ _ _ _ _ _ _
   | exact ih3 _ _ _ _ _ _ _ _ _ _
   | exact ih4 _ _ _ _ _ _ _ _ _ _ _ _
   | exact impl_GenOk.mono _ _ _ _ _ _
   | exact impl_SetList.mono _ _
   | exact impl_ordered.mono _ _
   | exact impl_rightAuto.mono _ _ _ _ _
   | exact impl_waitFor.mono _ _ _ _
   | exact LeO.none _
   | refine LeO.ite ?_ ?_
   | refine LeO.bind ?_ (fun _ => ?_)
  ·intro y0 y1 y2 y3 y4 y5 y6 y7 y8 y9 y10 y11
   unfold impl_GenDegen.l0
   repeat' first
   | (with_reducible exact ih0 _ _ _ _ _ _ _ _ _)
   | (with_reducible exact ih1 _ _ _ _ _ _ _ _ _ _ _ _ _)
   | (with_reducible exact ih2 _ _ _ _ _ _ _ _ _ _ _ _ _ _ _ _ _ _ _)
   | (with_reducible exact ih3 _ _ _ _ _ _ _ _ _ _)
   | (with_reducible exact ih4 _ _ _ _ _ _ _ _ _ _ _ _)
   | (with_reducible exact impl_GenOk.mono _ _ _ _ _ _)
   | (with_reducible exact impl_SetList.mono _ _)
   | (with_reducible exact impl_ordered.mono _ _)
   | (with_reducible exact impl_rightAuto.mono _ _ _ _ _)
   | (with_reducible exact impl_waitFor.mono _ _ _ _)
   | (with_reducible exact LeO.refl _)
   | (with_reducible exact LeO.none _)
   | (with_reducible refine LeO.ite ?_ ?_)
   | (with_reducible refine LeO.bind ?_ (fun _ => ?_))
   | exact ih0 _ _ _ _ _ _ _ _ _
   | exact ih1 _ _ _ _ _ _ _ _ _ _ _ _ _
   | exact ih2 _ _ _ _ _ _ _ _ _ _ _ _ _ _ _ _ _ _ _
   | exact ih3 _ _ _ _ _ _ _ _ _ _
   | exact ih4 _ _ _ _ _ _ _ _ _ _ _ _
   | exact impl_GenOk.mono _ _ _ _ _ _
   | exact impl_SetList.mono _ _
   | exact impl_ordered.mono _ _
   | exact impl_rightAuto.mono _ _ _ _ _
   | exact impl_waitFor.mono _ _ _ _
   | exact LeO.none _
   | refine LeO.ite ?_ ?_
   | refine LeO.bind ?_ (fun _ => ?_)
theorem impl_GenDegen.mono : ∀ a0 a1 a2 a3 a4 k, LeO (impl_GenDegen.f k a0 a1 a2 a3 a4) (impl_GenDegen.f (k + 1) a0 a1 a2 a3 a4) := by
 intro a0 a1 a2 a3 a4 k
 obtain ⟨ih0, ih1, ih2, ih3, ih4⟩ := impl_GenDegen.mono_l k
 unfold impl_GenDegen.f
 repeat' first
   | (with_reducible exact ih0 _ _ _ _ _ _ _ _ _)
   | (with_reducible exact ih1 _ _ _ _ _ _ _ _ _ _ _ _ _)
   | (with_reducible exact ih2 _ _ _ _ _ _ _ _ _ _ _ _ _ _ _ _ _ _ _)
   | (with_reducible exact ih3 _ _ _ _ _ _ _ _ _ _)
   | (with_reducible exact ih4 _ _ _ _ _ _ _ _ _ _ _ _)
   | (with_reducible exact impl_GenOk.mono _ _ _ _ _ _)
   | (with_reducible exact impl_SetList.mono _ _)
   | (with_reducible exact impl_ordered.mono _ _)
   | (with_reducible exact impl_rightAuto.mono _ _ _ _ _)
   | (with_reducible exact impl_waitFor.mono _ _ _ _)
   | (with_reducible exact LeO.refl _)
   | (with_reducible exact LeO.none _)
   | (with_reducible refine LeO.ite ?_ ?_)
   | (with_reducible refine LeO.bind ?_ (fun _ => ?_))
   | exact ih0 _ _ _ _ _ _ _ _ _
   | exact ih1 _ _ _ _ _ _ _ _ _ _ _ _ _
   | exact ih2 _ _ _ _ _ _ _ _ _ _ _ _ _ _ _ _ _ _ _
   | exact ih3 _ _ _ _ _ _ _ _ _ _
   | exact ih4 _ _ _ _ _ _ _ _ _ _ _ _
   | exact impl_GenOk.mono _ _ _ _ _ _
   | exact impl_SetList.mono _ _
   | exact impl_ordered.mono _ _
   | exact impl_rightAuto.mono _ _ _ _ _
   | exact impl_waitFor.mono _ _ _ _
   | exact LeO.none _
   | refine LeO.ite ?_ ?_
   | refine LeO.bind ?_ (fun _ => ?_)
def impl_GenDegen.T13 : Bool × List (List Nat × List Nat) := (true, [([], []), ([0], [0]), ([], []), ([], []), ([2, 3], [2, 3]), ([4], [4]), ([1, 5], [1, 5]), ([0, 1, 2, 3, 4, 5, 6], []), ([7, 6, 5, 0, 1, 2, 3, 4, 5, 6], [6, 7])])
def impl_GenDegen.B13 : List Nat := [0, 1, 0, 0, 12, 28, 63, 127, 255]
theorem impl_GenDegen.tab13 : rtab .any (opsOf Try.f7 13) = impl_GenDegen.T13 := by kernel_rfl
theorem impl_GenDegen.bits13 : waitsOk impl_GenDegen.T13.2 impl_GenDegen.B13 = true := by kernel_rfl
open Go.Proofs.Ytnflbjdmbaaokaa.Short2 in
set_option maxHeartbeats 8000000 in
set_option maxRecDepth 100000 in
theorem impl_GenDegen.calls (k : Nat) (a0_0 : Int) (a0_1 : Int) (a0_2 : Int) (a0_3 : Int) (A0_4 : Option Addr) (c0_4 : Nat) (l0_4 : List (S46)) (r1 : Int) (r2 : Int) (r3 : Int) (r4 : List (S48)) (r5 : Bool) (w : World) (hr0_4 : Kd.C k46 w A0_4 l0_4.length l0_4) (hc0_4 : l0_4.length ≤ c0_4) (h : impl_GenDegen.f k a0_0 a0_1 a0_2 a0_3 l0_4 = some (r1, r2, r3, r4, r5)) :
  Calls Try.prog 7 #[.agg #[.int .i64 a0_0, .int .i64 a0_1, .int .i64 a0_2, .int .i64 a0_3, .slice A0_4 l0_4.length c0_4]] w fun e w' => ∃ v3_ : Value, e = .returned (.tuple #[.agg #[.int .i64 r1, .int .i64 r2, .int .i64 r3, v3_], .bool r5]) ∧ Kd.R k48 48 w' w.heap.size (fun _ => True) v3_ r4 ∧ Below w.heap.size w w' := by
 have hu33 := Try.underlying33; have hu28 := Try.underlying28; have hu46 := Try.underlying46; have hu48 := Try.underlying48; have HR0_4 := Aside0.mk hr0_4; have HC0_4 := Aside0.mk hc0_4; clear hr0_4 hc0_4; have HB := Aside0.mk (Below.refl w.heap.size w); have H : ((impl_GenOk.f k a0_0 a0_1 a0_2 a0_3 l0_4).bind fun dy => (if dy = true then (if a0_3 > 0 then (if (wrap64 (a0_1 * (mx a0_3 1))) > 31 then (impl_GenDegen.j0 k (mx a0_3 1) true a0_0 a0_1 a0_2 a0_3 l0_4 a0_0 (wrap64 (a0_1 * (mx a0_3 1))) 0) else (impl_GenDegen.j0 k (mx a0_3 1) (decide ((wrap64 ((l0_4.length : Int) * (mx a0_3 1))) > 2000)) a0_0 a0_1 a0_2 a0_3 l0_4 a0_0 (wrap64 (a0_1 * (mx a0_3 1))) 0)) else (impl_GenDegen.j2 k (mx a0_3 1) a0_0 a0_1 a0_2 a0_3 l0_4 a0_0 a0_1 a0_2)) else (some (0, 0, 0, ([] : List (S48)), false)))) = some (r1, r2, r3, r4, r5) := h; clear h; replace H := bI H; obtain ⟨dy, eV, H⟩ := H; replace H : (if dy = true then (if a0_3 > 0 then (if (wrap64 (a0_1 * (mx a0_3 1))) > 31 then (impl_GenDegen.j0 k (mx a0_3 1) true a0_0 a0_1 a0_2 a0_3 l0_4 a0_0 (wrap64 (a0_1 * (mx a0_3 1))) 0) else (impl_GenDegen.j0 k (mx a0_3 1) (decide ((wrap64 ((l0_4.length : Int) * (mx a0_3 1))) > 2000)) a0_0 a0_1 a0_2 a0_3 l0_4 a0_0 (wrap64 (a0_1 * (mx a0_3 1))) 0)) else (impl_GenDegen.j2 k (mx a0_3 1) a0_0 a0_1 a0_2 a0_3 l0_4 a0_0 a0_1 a0_2)) else (some (0, 0, 0, ([] : List (S48)), false))) = some (r1, r2, r3, r4, r5) := H; have A2 := Aside0.mk eV; clear eV
 by_cases c3 : dy = true
 ·subst c3
  have H1 : (if a0_3 > 0 then (if (wrap64 (a0_1 * (mx a0_3 1))) > 31 then (impl_GenDegen.j0 k (mx a0_3 1) true a0_0 a0_1 a0_2 a0_3 l0_4 a0_0 (wrap64 (a0_1 * (mx a0_3 1))) 0) else (impl_GenDegen.j0 k (mx a0_3 1) (decide ((wrap64 ((l0_4.length : Int) * (mx a0_3 1))) > 2000)) a0_0 a0_1 a0_2 a0_3 l0_4 a0_0 (wrap64 (a0_1 * (mx a0_3 1))) 0)) else (impl_GenDegen.j2 k (mx a0_3 1) a0_0 a0_1 a0_2 a0_3 l0_4 a0_0 a0_1 a0_2)) = some (r1, r2, r3, r4, r5) := by rw [if_pos rfl] at H; exact H
  clear H; have H := H1; clear H1; obtain ⟨ji4, hji4⟩ : ∃ j_ : Int, (mx a0_3 1) = j_ := ⟨_, rfl⟩
  replace H : (if a0_3 > 0 then (if (wrap64 (a0_1 * (ji4))) > 31 then (impl_GenDegen.j0 k ji4 true a0_0 a0_1 a0_2 a0_3 l0_4 a0_0 (wrap64 (a0_1 * (ji4))) 0) else (impl_GenDegen.j0 k ji4 (decide ((wrap64 ((l0_4.length : Int) * (ji4))) > 2000)) a0_0 a0_1 a0_2 a0_3 l0_4 a0_0 (wrap64 (a0_1 * (ji4))) 0)) else (impl_GenDegen.j2 k ji4 a0_0 a0_1 a0_2 a0_3 l0_4 a0_0 a0_1 a0_2)) = some (r1, r2, r3, r4, r5) := by first | (rw [hji4] at H; exact H) | (simp only [hji4] at H ⊢; exact H)
  (try rw [hji4] at A2)
  (try (have hji4l : 1 ≤ ji4 := by (rw [← hji4]; unfold mx; (repeat' split) <;> omega)))
  (try (have hji4m : 0 ≤ ji4 := by omega))
  have hji4_ : (if a0_3 < 1 then 1 else a0_3) = ji4 := hji4; have HC5 := Aside0.mk H; clear H
  go_enter Try.func7, Try.ntmps7
  go_upto_if 29 with (first | ((with_reducible refine gate_dst (N := 1) rfl ?_); (try (refine gate_guard (by rfl) ?_; dsimp only)); refine bx_ 1 #[.int .i64 a0_0, .int .i64 a0_1, .int .i64 a0_2, .int .i64 a0_3, .slice A0_4 l0_4.length c0_4] 33 ?_; intro aE hg w6 hbox hb; have aa := Aside0.mk (hbox); have eN := xG HB hg; have dL := xG HB hg; replace HB := xS HB hb; clear hb hbox hg) | ((with_reducible refine gate_dst (N := 2) rfl ?_); (try (refine gate_guard (by rfl) ?_; dsimp only)); refine bx_ 2 #[.int .i64 0, .int .i64 0, .int .i64 0, .slice none 0 0] 28 ?_; intro av hg w7 hbox hb; have ac := Aside0.mk (hbox); have eO := xG HB hg; have dM := xG HB hg; replace HB := xS HB hb; have ap := xN aa hg; have bY := xM aa hg; replace aa := xB aa hb; clear hb hbox hg; obtain ⟨ik, il⟩ := nn ap; obtain ⟨bZ, ca, cb, cc, cd, ce, cf, cg, ch, ci⟩ := cz5 aa) | ((with_reducible refine gate_callee (f := 20) rfl ?_); refine gl_ (some 14) Try.func20 #[.agg #[.int .i64 a0_0, .int .i64 a0_1, .int .i64 a0_2, .int .i64 a0_3, .slice A0_4 l0_4.length c0_4]] ?_; (with_reducible refine (impl_GenOk.calls k a0_0 a0_1 a0_2 a0_3 _ _ l0_4 true _ ?side1 ?side2 A2.out).mono ?_); (case side1 => exact zC (Kd.C_below HR0_4.out HB.out)); (case side2 => exact HC0_4.out); rintro e ir ⟨rfl, hb⟩; refine ⟨_, rfl, ?_⟩; replace aa := xB aa hb; replace ac := xB ac hb; replace HB := xS HB hb; (try clear hb); (try clear hb2); (try clear hk); (try clear hi); obtain ⟨aH, aI, aJ, aK, aM, aN, aQ, aR, aT, aU⟩ := cz5 aa) | ((with_reducible refine gate_dst (N := 4) rfl ?_); (try (refine gate_guard (by rfl) ?_; dsimp only)); refine bx_ 4 #[.int .i64 0, .int .i64 0, .int .i64 0, .slice none 0 0] 28 ?_; intro af hg dC hbox hb; have ab := Aside0.mk (hbox); have gR := xG HB hg; have eP := xG HB hg; replace HB := xS HB hb; have aG := xN aa hg; have au := xM aa hg; replace aa := xB aa hb; have cZ := xN ac hg; have aq := xM ac hg; replace ac := xB ac hb; clear hb hbox hg; obtain ⟨gS, gT⟩ := nn au; obtain ⟨gU, gV⟩ := nn aq; obtain ⟨aV, aW, aX, aY, aZ, ba, bb, bc⟩ := cz4 ab; obtain ⟨bd, be, bf, bg, bh, bi, bj, bk, bl, bm⟩ := cz5 aa))
  (try simp only [Act.put, q3])
  have z1_ : Aside0 (((((dC.setCell ⟨af, 0, none⟩ (.int .i64 a0_0)).setCell ⟨af, 1, none⟩ (.int .i64 a0_1)).setCell ⟨af, 2, none⟩ (.int .i64 a0_2)).setCell ⟨af, 3, none⟩ (.slice none 0 0)).heap[aE]? = some (.cells #[.int .i64 a0_0, .int .i64 a0_1, .int .i64 a0_2, .int .i64 a0_3, .slice A0_4 l0_4.length c0_4] 33 (0, 0))) := ⟨zB aa.out⟩
  have z2_ : Aside0 (((((dC.setCell ⟨af, 0, none⟩ (.int .i64 a0_0)).setCell ⟨af, 1, none⟩ (.int .i64 a0_1)).setCell ⟨af, 2, none⟩ (.int .i64 a0_2)).setCell ⟨af, 3, none⟩ (.slice none 0 0)).heap[av]? = some (.cells #[.int .i64 0, .int .i64 0, .int .i64 0, .slice none 0 0] 28 (0, 0))) := ⟨zB ac.out⟩
  have z3_ : Aside0 (((((dC.setCell ⟨af, 0, none⟩ (.int .i64 a0_0)).setCell ⟨af, 1, none⟩ (.int .i64 a0_1)).setCell ⟨af, 2, none⟩ (.int .i64 a0_2)).setCell ⟨af, 3, none⟩ (.slice none 0 0)).heap[af]? = some (.cells #[.int .i64 a0_0, .int .i64 a0_1, .int .i64 a0_2, .slice none 0 0] 28 (0, 0))) := ⟨xP4 ab.out⟩
  have z4_ : Aside0 (Below w.heap.size w ((((dC.setCell ⟨af, 0, none⟩ (.int .i64 a0_0)).setCell ⟨af, 1, none⟩ (.int .i64 a0_1)).setCell ⟨af, 2, none⟩ (.int .i64 a0_2)).setCell ⟨af, 3, none⟩ (.slice none 0 0))) := ⟨zS HB.out⟩
  (try clear HB)
  generalize ((((dC.setCell ⟨af, 0, none⟩ (.int .i64 a0_0)).setCell ⟨af, 1, none⟩ (.int .i64 a0_1)).setCell ⟨af, 2, none⟩ (.int .i64 a0_2)).setCell ⟨af, 3, none⟩ (.slice none 0 0)) = wz at z1_ z2_ z3_ z4_ ⊢
  replace aa := z1_; replace ac := z2_; replace ab := z3_; have HB := z4_; clear z1_ z2_ z3_ z4_
  go_cut [] (fun wc => ∃ (kq : Nat) (ay : Int) (az : Int) (aA : Int) (ag : Int) (ah : Int), Aside0 (impl_GenDegen.j2 kq ji4 a0_0 a0_1 a0_2 a0_3 l0_4 a0_0 ag ah = some (r1, r2, r3, r4, r5)) ∧ Aside0 (kq ≤ k) ∧ Aside0 (wc.heap[aE]? = some (.cells #[.int .i64 a0_0, .int .i64 a0_1, .int .i64 a0_2, .int .i64 a0_3, (.slice A0_4 l0_4.length c0_4)] 33 (0, 0))) ∧ Aside0 (wc.heap[av]? = some (.cells #[.int .i64 ay, .int .i64 az, .int .i64 aA, (.slice none 0 0)] 28 (0, 0))) ∧ Aside0 (wc.heap[af]? = some (.cells #[.int .i64 a0_0, .int .i64 ag, .int .i64 ah, (.slice none 0 0)] 28 (0, 0))) ∧ Aside0 (Below w.heap.size w wc))
  case first =>
   have H := HC5.out; clear HC5
   by_cases cj : a0_3 > 0
   ·rw [if_pos cj] at H; have aw : decide (0 < a0_3) = true := decide_eq_true cj; clear cj
    (first | rw [aw] | (simp only [i64_w, i32_w]; rw [aw]) | skip)
    have HC18 := Aside0.mk H; clear H; obtain ⟨gW, gX⟩ := nn au; obtain ⟨gY, gZ⟩ := nn aq; obtain ⟨bn, bo, bp, bq, br, bs, bt, bu⟩ := cz4 ab
    go_upto_region 8 with (fail)
    go_cut [46] (fun gE wc => ∃ (kq : Nat) (cM : Bool), gE = .bool cM ∧ Aside0 (impl_GenDegen.j0 kq ji4 cM a0_0 a0_1 a0_2 a0_3 l0_4 a0_0 (wrap64 (a0_1 * (ji4))) 0 = some (r1, r2, r3, r4, r5)) ∧ Aside0 (kq ≤ k) ∧ Aside0 (wc.heap[aE]? = some (.cells #[.int .i64 a0_0, .int .i64 a0_1, .int .i64 a0_2, .int .i64 a0_3, (.slice A0_4 l0_4.length c0_4)] 33 (0, 0))) ∧ Aside0 (wc.heap[av]? = some (.cells #[.int .i64 0, .int .i64 0, .int .i64 0, (.slice none 0 0)] 28 (0, 0))) ∧ Aside0 (wc.heap[af]? = some (.cells #[.int .i64 a0_0, .int .i64 (wrap64 (a0_1 * (ji4))), .int .i64 0, (.slice none 0 0)] 28 (0, 0))) ∧ Aside0 (Below w.heap.size w wc))
    case first =>
     have H := HC18.out; clear HC18
     by_cases ck : (wrap64 (a0_1 * (ji4))) > 31
     ·rw [if_pos ck] at H; have ax : decide (31 < (wrap64 (a0_1 * (ji4)))) = true := decide_eq_true ck; clear ck
      (first | rw [ax] | (simp only [i64_w, i32_w]; rw [ax]) | skip)
      have H' := Aside0.mk H; clear H; obtain ⟨ha, hc⟩ := nn au; obtain ⟨hd, he⟩ := nn aq; obtain ⟨bv, bw, bx, bz, bA, bB, bC, bD⟩ := cz4 ab
      go_wp2
      (first | go_meet | ((try simp only [← hji4]); go_meet))
      case rel => exact ⟨_, (true), vv, (by first | exact H' | (have h_ := H'; (try simp only [← hji4] at h_); (try simp only [← hji4]); exact h_)), ⟨by first | omega | exact Nat.le_refl _⟩, ⟨zB aa.out⟩, ⟨zB ac.out⟩, ⟨by (with_reducible repeat (first | refine blk_drewN ?_ _ | refine blk_drew ?_ | refine blk_alloc ?_ _)); refine blk_put (cs := #[.int .i64 a0_0, .int .i64 (wrap64 (a0_1 * (ji4))), .int .i64 a0_2, .slice none 0 0]) ?_ 2 _ rfl; (with_reducible repeat (first | refine blk_drewN ?_ _ | refine blk_drew ?_ | refine blk_alloc ?_ _)); refine blk_put (cs := #[.int .i64 a0_0, .int .i64 a0_1, .int .i64 a0_2, .slice none 0 0]) ?_ 1 _ rfl; (with_reducible repeat (first | refine blk_drewN ?_ _ | refine blk_drew ?_ | refine blk_alloc ?_ _)); exact ab.out⟩, ⟨zS HB.out⟩⟩
     ·rw [if_neg ck] at H; have ax : decide (31 < (wrap64 (a0_1 * (ji4)))) = false := decide_eq_false ck; clear ck
      (first | rw [ax] | (simp only [i64_w, i32_w]; rw [ax]) | skip)
      have H' := Aside0.mk H; clear H; obtain ⟨hf, hh⟩ := nn au; obtain ⟨hj, hl⟩ := nn aq; obtain ⟨bE, bF, bH, bJ, bK, bL, bM, bN⟩ := cz4 ab; obtain ⟨hm, hp⟩ := nn ap; obtain ⟨bO, bP, bQ, bR, bS, bT, bU, bV, bW, bX⟩ := cz5 aa
      go_wp2
      (first | go_meet | ((try simp only [← hji4]); go_meet))
      case rel => exact ⟨_, (decide ((wrap64 ((l0_4.length : Int) * (ji4))) > 2000)), (by first | rfl | (simp; done) | (simp only [← hji4] <;> (first | rfl | simp)) | (simp [*]; done)), (by first | exact H' | (have h_ := H'; (try simp only [← hji4] at h_); (try simp only [← hji4]); exact h_)), ⟨by first | omega | exact Nat.le_refl _⟩, ⟨zB aa.out⟩, ⟨zB ac.out⟩, ⟨by (with_reducible repeat (first | refine blk_drewN ?_ _ | refine blk_drew ?_ | refine blk_alloc ?_ _)); refine blk_put (cs := #[.int .i64 a0_0, .int .i64 (wrap64 (a0_1 * (ji4))), .int .i64 a0_2, .slice none 0 0]) ?_ 2 _ rfl; (with_reducible repeat (first | refine blk_drewN ?_ _ | refine blk_drew ?_ | refine blk_alloc ?_ _)); refine blk_put (cs := #[.int .i64 a0_0, .int .i64 a0_1, .int .i64 a0_2, .slice none 0 0]) ?_ 1 _ rfl; (with_reducible repeat (first | refine blk_drewN ?_ _ | refine blk_drew ?_ | refine blk_alloc ?_ _)); exact ab.out⟩, ⟨zS HB.out⟩⟩
    case rest =>
     clear HC18
     try clear c1
     try clear c2
     try clear p2
     try clear c3
     try clear p6
     try clear c7
     try clear c8
     try clear dN
     try clear dO
     try clear cj
     try clear aw
     try clear dP
     try clear dQ
     try clear ck
     try clear ax
     try clear dR
     try clear dS
     try clear dT
     try clear dU
     try clear dV
     try clear aH aI aJ aK aM
     try clear aV aW aX aY
     try clear bd be bf bg bh
     try clear bn bo bp bq
     try clear bv bw bx bz
     try clear bE bF bH bJ
     try clear bO bP bQ bR bS
     try clear bZ ca cb cc cd
     try clear aN
     try clear aQ
     try clear aR
     try clear aT
     try clear aU
     try clear aZ
     try clear ba
     try clear bb
     try clear bc
     try clear bi
     try clear bj
     try clear bk
     try clear bl
     try clear bm
     try clear br
     try clear bs
     try clear bt
     try clear bu
     try clear bA
     try clear bB
     try clear bC
     try clear bD
     try clear bK
     try clear bL
     try clear bM
     try clear bN
     try clear bT
     try clear bU
     try clear bV
     try clear bW
     try clear bX
     try clear ce
     try clear cf
     try clear cg
     try clear ch
     try clear ci
     obtain ⟨kq, cM, rfl, HA, HJ17, aa, ac, ab, HB⟩ := hcut
     cases kq with
     | zero => exact absurd HA.out (by simp [impl_GenDegen.j0])
     | succ kj17 =>
      have H := HA.out; clear HA; simp only [impl_GenDegen.j0] at H
      by_cases da : cM = true
      ·subst da
       have H1 : (some (0, 0, 0, ([] : List (S48)), false)) = some (r1, r2, r3, r4, r5) := by rw [if_pos rfl] at H; exact H
       clear H; have H := H1; clear H1; simp only [Option.some.injEq, Prod.mk.injEq] at H; obtain ⟨rfl, rfl, rfl, rfl, rfl⟩ := H; obtain ⟨hq, hs⟩ := nn bY; obtain ⟨ht, hu⟩ := nn cZ; obtain ⟨cr, ct, cu, cv, cw, cx, cy, cz⟩ := cz4 ac
       go_wp2
       refine bodyPost_ret (results_ct rfl _ _ av 28 #[.int .i64 0, .int .i64 0, .int .i64 0, .slice none 0 0] (0, 0) _ rfl (xP4 ac.out) Try.underlying28 rfl (by kernel_rfl)) rfl ?_; exact ⟨_, by first | rfl | (simp [errW_none, errW_some] <;> rfl) | (simp only [← hji4]; first | rfl | (simp [errW_none, errW_some] <;> rfl)) | (simp [*, errW_none, errW_some] <;> rfl), by first | exact Kd.R_nil _ _ _ _ _ | exact Kd.N_nil _ _ _ _ _ | exact Kd.V_nil _ _ _ _ _ | exact Kd.Q_nil _ _ _ _ _ | exact Kd.S_nil _ _ _ _ _, zS HB.out⟩
      ·replace da := Bool.eq_false_iff.mpr da; subst da
       have H1 : ((impl_SetList.f kj17 a0_2).bind fun an => (impl_GenDegen.l0 kj17 ji4 an (an.length : Int) 0 a0_0 a0_1 a0_2 a0_3 l0_4 a0_0 (wrap64 (a0_1 * (ji4))) 0)) = some (r1, r2, r3, r4, r5) := by rw [if_neg (show ¬ (false = true) by decide)] at H; exact H
       clear H; have H := H1; clear H1; replace H := bI H; obtain ⟨an, eC, H⟩ := H; replace H : (impl_GenDegen.l0 kj17 ji4 an (an.length : Int) 0 a0_0 a0_1 a0_2 a0_3 l0_4 a0_0 (wrap64 (a0_1 * (ji4))) 0) = some (r1, r2, r3, r4, r5) := H; have gF := Aside0.mk eC; clear eC; have H' := Aside0.mk H; clear H; obtain ⟨hv, hx⟩ := nn ap; obtain ⟨hy, hA⟩ := nn aG; obtain ⟨cA, cB, cC, cD, cE, cF, cG, cH, cI, cJ⟩ := cz5 aa
       go_wp2_with (first | ((with_reducible refine gate_callee (f := 21) rfl ?_); refine gl_ (some 50) Try.func21 #[.int .i64 a0_2] ?_; (with_reducible refine (impl_SetList.calls kj17 a0_2 an _ gF.out).mono ?_); rintro e it ⟨im, rfl, ho0, hb⟩; refine ⟨_, rfl, ?_⟩; have dW := rW0 ho0 HB; replace aa := xB aa hb; replace ac := xB ac hb; replace ab := xB ab hb; replace HB := xS HB hb; (try clear hb); (try clear hb2); (try clear hk); (try clear hi); (try clear ho0); obtain ⟨eZ, fa, fb⟩ := Kd.R_slice dW.out; subst fb))
       go_loopg [52] kj17 (fun kq gG w' => ∃ (aj : Int) (ak : Int), gG = .int .i64 aj ∧ Aside0 (impl_GenDegen.l0 kq ji4 an (an.length : Int) aj a0_0 a0_1 a0_2 a0_3 l0_4 a0_0 (wrap64 (a0_1 * (ji4))) ak = some (r1, r2, r3, r4, r5)) ∧ Aside0 (kq ≤ kj17) ∧ Aside0 (Kd.R (Kd.int .i64) 3 w' w.heap.size (fun _ => True) (.slice eZ an.length fa) an) ∧ Aside0 (w'.heap[aE]? = some (.cells #[.int .i64 a0_0, .int .i64 a0_1, .int .i64 a0_2, .int .i64 a0_3, (.slice A0_4 l0_4.length c0_4)] 33 (0, 0))) ∧ Aside0 (w'.heap[av]? = some (.cells #[.int .i64 0, .int .i64 0, .int .i64 0, (.slice none 0 0)] 28 (0, 0))) ∧ Aside0 (w'.heap[af]? = some (.cells #[.int .i64 a0_0, .int .i64 (wrap64 (a0_1 * (ji4))), .int .i64 ak, (.slice none 0 0)] 28 (0, 0))) ∧ Aside0 (Below w.heap.size w w'))
       case atStart => exact ⟨(0), (0), vv, H', ⟨Nat.le_refl _⟩, ⟨zR dW.out⟩, ⟨zB aa.out⟩, ⟨zB ac.out⟩, ⟨zB ab.out⟩, ⟨zS HB.out⟩⟩
       case round =>
        clear H'
        try clear c1
        try clear c2
        try clear p2
        try clear c3
        try clear p6
        try clear c7
        try clear c8
        try clear dN
        try clear dO
        try clear cj
        try clear aw
        try clear dP
        try clear dQ
        try clear eD
        try clear ck
        try clear ax
        try clear dR
        try clear dS
        try clear dT
        try clear dU
        try clear dV
        try clear da
        try clear eE
        try clear eF
        try clear eG
        try clear eH
        try clear aH aI aJ aK aM
        try clear aV aW aX aY
        try clear bd be bf bg bh
        try clear bn bo bp bq
        try clear bv bw bx bz
        try clear bE bF bH bJ
        try clear bO bP bQ bR bS
        try clear cr ct cu cv
        try clear cA cB cC cD cE
        try clear bZ ca cb cc cd
        try clear aN
        try clear aQ
        try clear aR
        try clear aT
        try clear aU
        try clear aZ
        try clear ba
        try clear bb
        try clear bc
        try clear bi
        try clear bj
        try clear bk
        try clear bl
        try clear bm
        try clear br
        try clear bs
        try clear bt
        try clear bu
        try clear bA
        try clear bB
        try clear bC
        try clear bD
        try clear bK
        try clear bL
        try clear bM
        try clear bN
        try clear bT
        try clear bU
        try clear bV
        try clear bW
        try clear bX
        try clear cw
        try clear cx
        try clear cy
        try clear cz
        try clear cF
        try clear cG
        try clear cH
        try clear cI
        try clear cJ
        try clear ce
        try clear cf
        try clear cg
        try clear ch
        try clear ci
        try clear p2
        try clear p6
        obtain ⟨aj, ak, rfl, HA, HK2, cN, aa, ac, ab, HB⟩ := hrel
        cases gk with
        | zero => exact absurd HA.out (by simp [impl_GenDegen.l0])
        | succ k2 =>
         have H := HA.out; clear HA; simp only [impl_GenDegen.l0] at H
         by_cases cO : aj < (an.length : Int)
         ·rw [if_pos cO] at H; have de : decide (aj < (an.length : Int)) = true := decide_eq_true cO; clear cO
          by_cases df : 0 ≤ aj
          ·rw [if_pos df] at H; have dz : decide (0 ≤ aj) = true := decide_eq_true df; clear df
           by_cases dg : aj < (an.length : Int)
           ·rw [if_pos dg] at H; have dA : decide (aj < (an.length : Int)) = true := decide_eq_true dg; clear dg; replace H := bI H; obtain ⟨dF, eI, H⟩ := H; replace H : (impl_GenDegen.l0 k2 ji4 an (an.length : Int) (wrap64 (aj + 1)) a0_0 a0_1 a0_2 a0_3 l0_4 a0_0 (wrap64 (a0_1 * (ji4))) (Go.bits .or .i64 ak dF)) = some (r1, r2, r3, r4, r5) := H; have gH := Aside0.mk eI; clear eI; have H' := Aside0.mk H; clear H; have cQ : 0 ≤ (aj : Int) := oD; have q292 : aj < (an.length : Int) := oD; obtain ⟨ad292, e292, cR⟩ := Kd.at_int (Kd.R_reads' cN.out).2.2 aj cQ q292
            cases e292
            replace cQ := eq_true cQ; replace q292 := eq_true q292
            try go_wp2
            replace cN := Aside0.mk (Kd.R_drew cN.out); replace aa := Aside0.mk (blk_drew aa.out); replace ac := Aside0.mk (blk_drew ac.out); replace ab := Aside0.mk (blk_drew ab.out); replace HB := Aside0.mk (below_drew1 HB.out); refine start_ (n := 9) (S := fun w' => w'.cell? ⟨af, 0, none⟩ = some (.int .i64 a0_0) ∧ w'.cell? ⟨af, 1, none⟩ = some (.int .i64 (wrap64 (a0_1 * (ji4)))) ∧ w'.cell? ⟨af, 2, none⟩ = some (.int .i64 ak) ∧ w'.cell? ⟨af, 3, none⟩ = some (.slice none 0 0)) (ds := [8]) bl0 (by kernel_rfl) rfl rfl ⟨b1 ab 0, b1 ab 1, b1 ab 2, b1 ab 3⟩ (fun hHeld => ?_); refine with_tabW impl_GenDegen.tab13 impl_GenDegen.bits13 (fun HT_ HW_ => ?_); generalize wr.drew = gI at cN aa ac ab HB hHeld ⊢
            refine pv_ 0 (some 56) bl1 HT_ ?_
            refine pv_ 2 (some 58) bl2 HT_ ?_
            refine pv_ 3 (some 59) bl3 HT_ ?_
            refine pv_ 4 (some 60) bl4 HT_ ?_
            refine tk_ 1 (some 57) bl5 HT_ HW_ hHeld ?_
            refine on_ 5 (some 61) bl6 HT_ (fun K hK => ?_); refine goes_ Try.func22 (by kernel_rfl) rfl #[.int .i64 (wrap64 ((rd an aj) * ji4))] (by rfl) rfl rfl (by (try simp only [m3]); first | done | (simp only [hji4]; rfl) | rfl | (simp only [d2]; rfl)) ?_
            with_reducible refine (impl_only.calls (wrap64 ((rd an aj) * ji4)) dF _ gH.out).mono ?_
            rintro e w' ⟨rfl, ⟨nd, rfl⟩⟩; refine ⟨_, rfl, ?_⟩; refine hK.out _ _ ⟨b1 ab 0, b1 ab 1, b1 ab 2, b1 ab 3⟩ (fun hHeld => ?_); clear hK K; refine nr_ (some 61) ?_
            refine pv_ 6 (some 62) bl7 HT_ ?_
            refine pv_ 7 (some 63) bl8 HT_ ?_
            refine last_ (i := 8) (N := none) bl9 rfl rfl (one_of HT_.out (by kernel_rfl)) (by decide) (fun K hK => ?_); have io : gI.cell? ⟨af, 2, none⟩ = some (.int .i64 ak) := b1 ab 2; have hB := blk_frozen ab.out 2; have fl := aG.out; have fm := cZ.out; have fn := au.out; have fo := aq.out; refine skip_ (w1 := ?_) (by rfl) rfl ?_ ?_; rotate_left
            ·go_simp; rfl
            refine hK.out _ _ ?_; clear hK K; refine done_ (done_of HT_.out (by kernel_rfl)) ?_
            try go_wp2
            (first | go_roundg k2 | ((try simp only [← hji4]); go_roundg k2))
            case measure => have := HJ17.out; have := HK2.out; omega
            case rel => exact ⟨(wrap64 (aj + 1)), (Go.bits .or .i64 ak dF), vv, (by first | exact H' | (have h_ := H'; (try simp only [← hji4] at h_); (try simp only [← hji4]); exact h_)), ⟨by have := HJ17.out; have := HK2.out; omega⟩, ⟨rM (Aside0.mk (yF1 cN ab)) (fun _ hk => trivial)⟩, ⟨zB aa.out⟩, ⟨zB ac.out⟩, ⟨by (with_reducible repeat (first | refine blk_drewN ?_ _ | refine blk_drew ?_ | refine blk_alloc ?_ _)); refine blk_put (cs := #[.int .i64 a0_0, .int .i64 (wrap64 (a0_1 * (ji4))), .int .i64 ak, .slice none 0 0]) ?_ 2 _ rfl; (with_reducible repeat (first | refine blk_drewN ?_ _ | refine blk_drew ?_ | refine blk_alloc ?_ _)); exact ab.out⟩, ⟨zS HB.out⟩⟩
           ·rw [if_neg dg] at H; exact absurd H (by simp)
          ·rw [if_neg df] at H; exact absurd H (by simp)
         ·rw [if_neg cO] at H; have de : decide (aj < (an.length : Int)) = false := decide_eq_false cO; clear cO; have H' := Aside0.mk H; clear H
          go_wp2
          (first | go_meet | ((try simp only [← hji4]); go_meet))
          case rel => exact ⟨_, (0), (0), (0), ((wrap64 (a0_1 * (ji4)))), (ak), (by first | exact H' | (have h_ := H'; (try simp only [← hji4] at h_); (try simp only [← hji4]); exact h_)), ⟨by have := HJ17.out; have := HK2.out; first | omega | exact Nat.le_refl _⟩, ⟨zB aa.out⟩, ⟨zB ac.out⟩, ⟨zB ab.out⟩, ⟨zS HB.out⟩⟩
   ·rw [if_neg cj] at H; have aw : decide (0 < a0_3) = false := decide_eq_false cj; clear cj
    (first | rw [aw] | (simp only [i64_w, i32_w]; rw [aw]) | skip)
    have H' := Aside0.mk H; clear H
    go_wp2
    (first | go_meet | ((try simp only [← hji4]); go_meet))
    case rel => exact ⟨_, (0), (0), (0), (a0_1), (a0_2), (by first | exact H' | (have h_ := H'; (try simp only [← hji4] at h_); (try simp only [← hji4]); exact h_)), ⟨by first | omega | exact Nat.le_refl _⟩, ⟨zB aa.out⟩, ⟨zB ac.out⟩, ⟨by (with_reducible repeat (first | refine blk_drewN ?_ _ | refine blk_drew ?_ | refine blk_alloc ?_ _)); exact ab.out⟩, ⟨zS HB.out⟩⟩
  case rest =>
   clear HC5
   try clear c1
   try clear c2
   try clear p2
   try clear q2
   try clear hx2
   try clear c3
   try clear c4
   try clear p6
   try clear c7
   try clear c8
   try clear dN
   try clear dO
   try clear cj
   try clear aw
   try clear dP
   try clear dQ
   try clear eD
   try clear ck
   try clear ax
   try clear dR
   try clear dS
   try clear dT
   try clear dU
   try clear dV
   try clear dX
   try clear q29
   try clear hx29
   try clear da
   try clear eE
   try clear eF
   try clear eG
   try clear eH
   try clear cO
   try clear de
   try clear df
   try clear dz
   try clear dg
   try clear dA
   try clear aH aI aJ aK aM
   try clear aV aW aX aY
   try clear bd be bf bg bh
   try clear bn bo bp bq
   try clear bv bw bx bz
   try clear bE bF bH bJ
   try clear bO bP bQ bR bS
   try clear cr ct cu cv
   try clear cA cB cC cD cE
   try clear bZ ca cb cc cd
   try clear aN
   try clear aQ
   try clear aR
   try clear aT
   try clear aU
   try clear aZ
   try clear ba
   try clear bb
   try clear bc
   try clear bi
   try clear bj
   try clear bk
   try clear bl
   try clear bm
   try clear br
   try clear bs
   try clear bt
   try clear bu
   try clear bA
   try clear bB
   try clear bC
   try clear bD
   try clear bK
   try clear bL
   try clear bM
   try clear bN
   try clear bT
   try clear bU
   try clear bV
   try clear bW
   try clear bX
   try clear cw
   try clear cx
   try clear cy
   try clear cz
   try clear cF
   try clear cG
   try clear cH
   try clear cI
   try clear cJ
   try clear ce
   try clear cf
   try clear cg
   try clear ch
   try clear ci
   try clear cR
   try clear p2
   try clear cQ
   try clear p6
   try clear q292
   obtain ⟨kq, ay, az, aA, ag, ah, HA, HJ4, aa, ac, ab, HB⟩ := hcut
   cases kq with
   | zero => exact absurd HA.out (by simp [impl_GenDegen.j2])
   | succ kj4 =>
    have H := HA.out; clear HA; simp only [impl_GenDegen.j2] at H; have H' := Aside0.mk H; clear H; obtain ⟨hC, hD⟩ := nn ap; obtain ⟨hE, hF⟩ := nn aG; obtain ⟨dk, dl, dm, dn, dp, dq, dr, dt, du, dv⟩ := cz5 aa
    go_wp2
    go_loopg [68] kj4 (fun kq gJ w' => ∃ (ad : Int) (ai : List (S48)) (ao : Value), gJ = .int .i64 ad ∧ Aside0 (impl_GenDegen.l1 kq ji4 l0_4 (l0_4.length : Int) ad a0_0 a0_1 a0_2 a0_3 l0_4 a0_0 ag ah ai = some (r1, r2, r3, r4, r5)) ∧ Aside0 (kq ≤ kj4) ∧ Aside0 (Kd.R k48 48 w' w.heap.size (fun _ => True) ao ai) ∧ Aside0 (w'.heap[aE]? = some (.cells #[.int .i64 a0_0, .int .i64 a0_1, .int .i64 a0_2, .int .i64 a0_3, (.slice A0_4 l0_4.length c0_4)] 33 (0, 0))) ∧ Aside0 (w'.heap[av]? = some (.cells #[.int .i64 ay, .int .i64 az, .int .i64 aA, (.slice none 0 0)] 28 (0, 0))) ∧ Aside0 (w'.heap[af]? = some (.cells #[.int .i64 a0_0, .int .i64 ag, .int .i64 ah, ao] 28 (0, 0))) ∧ Aside0 (Below w.heap.size w w'))
    case atStart => exact ⟨(0), (([] : List (S48))), (.slice none 0 0), vv, H', ⟨Nat.le_refl _⟩, ⟨by first | exact Kd.R_nil _ _ _ _ _ | exact Kd.N_nil _ _ _ _ _ | exact Kd.V_nil _ _ _ _ _ | exact Kd.Q_nil _ _ _ _ _ | exact Kd.S_nil _ _ _ _ _⟩, ⟨zB aa.out⟩, ⟨zB ac.out⟩, ⟨zB ab.out⟩, ⟨zS HB.out⟩⟩
    case round =>
     clear H'
     try clear c1
     try clear c2
     try clear p2
     try clear q2
     try clear hx2
     try clear c3
     try clear c4
     try clear p6
     try clear c7
     try clear c8
     try clear dN
     try clear dO
     try clear cj
     try clear aw
     try clear dP
     try clear dQ
     try clear eD
     try clear ck
     try clear ax
     try clear dR
     try clear dS
     try clear dT
     try clear dU
     try clear dV
     try clear dX
     try clear q29
     try clear hx29
     try clear da
     try clear eE
     try clear eF
     try clear eG
     try clear eH
     try clear cO
     try clear de
     try clear df
     try clear dz
     try clear dg
     try clear dA
     try clear gK
     try clear gL
     try clear aH aI aJ aK aM
     try clear aV aW aX aY
     try clear bd be bf bg bh
     try clear bn bo bp bq
     try clear bv bw bx bz
     try clear bE bF bH bJ
     try clear bO bP bQ bR bS
     try clear cr ct cu cv
     try clear cA cB cC cD cE
     try clear dk dl dm dn dp
     try clear bZ ca cb cc cd
     try clear aN
     try clear aQ
     try clear aR
     try clear aT
     try clear aU
     try clear aZ
     try clear ba
     try clear bb
     try clear bc
     try clear bi
     try clear bj
     try clear bk
     try clear bl
     try clear bm
     try clear br
     try clear bs
     try clear bt
     try clear bu
     try clear bA
     try clear bB
     try clear bC
     try clear bD
     try clear bK
     try clear bL
     try clear bM
     try clear bN
     try clear bT
     try clear bU
     try clear bV
     try clear bW
     try clear bX
     try clear cw
     try clear cx
     try clear cy
     try clear cz
     try clear cF
     try clear cG
     try clear cH
     try clear cI
     try clear cJ
     try clear dq
     try clear dr
     try clear dt
     try clear du
     try clear dv
     try clear ce
     try clear cf
     try clear cg
     try clear ch
     try clear ci
     try clear cR
     try clear p2
     try clear dX
     try clear cQ
     try clear p6
     try clear q2
     try clear q29
     try clear q292
     obtain ⟨ad, ai, ao, rfl, HA, HK2, ae, aa, ac, ab, HB⟩ := hrel
     cases gk with
     | zero => exact absurd HA.out (by simp [impl_GenDegen.l1])
     | succ k2 =>
      have H := HA.out; clear HA; simp only [impl_GenDegen.l1] at H
      by_cases dh : ad < (l0_4.length : Int)
      ·rw [if_pos dh] at H; have dY : decide (ad < (l0_4.length : Int)) = true := decide_eq_true dh; clear dh
       by_cases dD : 0 ≤ ad
       ·rw [if_pos dD] at H; have eQ : decide (0 ≤ ad) = true := decide_eq_true dD; clear dD
        by_cases dE : ad < (l0_4.length : Int)
        ·rw [if_pos dE] at H; have eR : decide (ad < (l0_4.length : Int)) = true := decide_eq_true dE; clear dE; have H' := Aside0.mk H; clear H; have dB : 0 ≤ (ad : Int) := oD; have q304 : ad < (l0_4.length : Int) := oD; obtain ⟨ad304, e304, cS, cU, cV, cW⟩ := at_T46 HR0_4.out ad dB q304
         cases e304
         replace cS := ct_ HB cS; replace cU := ct_ HB cU; replace cV := ct_ HB cV; replace cW := ct_ HB cW; replace dB := eq_true dB; replace q304 := eq_true q304
         go_wp2_with (first | ((with_reducible refine gate_dst (N := 9) rfl ?_); (try (refine gate_guard (by rfl) ?_; dsimp only)); refine bx_ 9 #[.int .i64 0, .int .i64 0, .int .i64 0, .int .i64 0] 46 ?_; intro eS hg iu hbox hb; replace ae := xR ae hb; have ar := Aside0.mk (hbox); have hG := xG HB hg; have hH := xG HB hg; replace HB := xS HB hb; have eW := xN aa hg; have db := xM aa hg; replace aa := xB aa hb; have eX := xN ac hg; have dc := xM ac hg; replace ac := xB ac hb; have eY := xN ab hg; have dd := xM ab hg; replace ab := xB ab hb; clear hb hbox hg; obtain ⟨hI, hJ⟩ := nn db; obtain ⟨hL, hM⟩ := nn dc; obtain ⟨hN, hO⟩ := nn dd; obtain ⟨ec, ed, ee, ef, eg, eh, ei, ej⟩ := cz4 ar))
         go_loopg [73] k2 (fun kq gM w' => ∃ (am : Int) (al : List (S48)) (ao : Value), gM = .int .i64 am ∧ Aside0 (impl_GenDegen.l2 kq ji4 l0_4 (l0_4.length : Int) ad ji4 am a0_0 a0_1 a0_2 a0_3 l0_4 a0_0 ag ah al ((rd_T46 l0_4 ad).f0) ((rd_T46 l0_4 ad).f1) ((rd_T46 l0_4 ad).f2) ((rd_T46 l0_4 ad).f3) = some (r1, r2, r3, r4, r5)) ∧ Aside0 (kq ≤ k2) ∧ Aside0 (Kd.R k48 48 w' w.heap.size (fun _ => True) ao al) ∧ Aside0 (w'.heap[aE]? = some (.cells #[.int .i64 a0_0, .int .i64 a0_1, .int .i64 a0_2, .int .i64 a0_3, (.slice (some ad304) l0_4.length c0_4)] 33 (0, 0))) ∧ Aside0 (w'.heap[av]? = some (.cells #[.int .i64 ay, .int .i64 az, .int .i64 aA, (.slice none 0 0)] 28 (0, 0))) ∧ Aside0 (w'.heap[af]? = some (.cells #[.int .i64 a0_0, .int .i64 ag, .int .i64 ah, ao] 28 (0, 0))) ∧ Aside0 (w'.heap[eS]? = some (.cells #[.int .i64 ((rd_T46 l0_4 ad).f0), .int .i64 ((rd_T46 l0_4 ad).f1), .int .i64 ((rd_T46 l0_4 ad).f2), .int .i64 ((rd_T46 l0_4 ad).f3)] 46 (0, 0))) ∧ Aside0 (Below w.heap.size w w'))
         case atStart => exact ⟨(0), (ai), (ao), vv, H', ⟨Nat.le_refl _⟩, ⟨rM (Aside0.mk (yF4 ae ar)) (fun _ hk => trivial)⟩, ⟨zB aa.out⟩, ⟨zB ac.out⟩, ⟨zB ab.out⟩, ⟨by (with_reducible repeat (first | refine blk_drewN ?_ _ | refine blk_drew ?_ | refine blk_alloc ?_ _)); refine blk_put (cs := #[.int .i64 ((rd_T46 l0_4 ad).f0), .int .i64 ((rd_T46 l0_4 ad).f1), .int .i64 ((rd_T46 l0_4 ad).f2), .int .i64 0]) ?_ 3 _ rfl; (with_reducible repeat (first | refine blk_drewN ?_ _ | refine blk_drew ?_ | refine blk_alloc ?_ _)); refine blk_put (cs := #[.int .i64 ((rd_T46 l0_4 ad).f0), .int .i64 ((rd_T46 l0_4 ad).f1), .int .i64 0, .int .i64 0]) ?_ 2 _ rfl; (with_reducible repeat (first | refine blk_drewN ?_ _ | refine blk_drew ?_ | refine blk_alloc ?_ _)); refine blk_put (cs := #[.int .i64 ((rd_T46 l0_4 ad).f0), .int .i64 0, .int .i64 0, .int .i64 0]) ?_ 1 _ rfl; (with_reducible repeat (first | refine blk_drewN ?_ _ | refine blk_drew ?_ | refine blk_alloc ?_ _)); refine blk_put (cs := #[.int .i64 0, .int .i64 0, .int .i64 0, .int .i64 0]) ?_ 0 _ rfl; (with_reducible repeat (first | refine blk_drewN ?_ _ | refine blk_drew ?_ | refine blk_alloc ?_ _)); exact ar.out⟩, ⟨zS HB.out⟩⟩
         case round =>
          clear H'
          try clear c1
          try clear c2
          try clear p2
          try clear q2
          try clear hx2
          try clear c3
          try clear p3
          try clear q3
          try clear hx3
          try clear c4
          try clear c5
          try clear p6
          try clear c7
          try clear c8
          try clear dN
          try clear dO
          try clear cj
          try clear aw
          try clear dP
          try clear dQ
          try clear eD
          try clear ck
          try clear ax
          try clear dR
          try clear dS
          try clear dT
          try clear dU
          try clear dV
          try clear dX
          try clear q29
          try clear hx29
          try clear iv
          try clear q30
          try clear hx30
          try clear da
          try clear eE
          try clear eF
          try clear eG
          try clear eH
          try clear cO
          try clear de
          try clear df
          try clear dz
          try clear dg
          try clear dA
          try clear gK
          try clear gL
          try clear dh
          try clear dY
          try clear dD
          try clear eQ
          try clear dE
          try clear eR
          try clear iw
          try clear ix
          try clear iy
          try clear aH aI aJ aK aM
          try clear aV aW aX aY
          try clear bd be bf bg bh
          try clear bn bo bp bq
          try clear bv bw bx bz
          try clear bE bF bH bJ
          try clear bO bP bQ bR bS
          try clear cr ct cu cv
          try clear cA cB cC cD cE
          try clear dk dl dm dn dp
          try clear ec ed ee ef
          try clear bZ ca cb cc cd
          try clear aN
          try clear aQ
          try clear aR
          try clear aT
          try clear aU
          try clear aZ
          try clear ba
          try clear bb
          try clear bc
          try clear bi
          try clear bj
          try clear bk
          try clear bl
          try clear bm
          try clear br
          try clear bs
          try clear bt
          try clear bu
          try clear bA
          try clear bB
          try clear bC
          try clear bD
          try clear bK
          try clear bL
          try clear bM
          try clear bN
          try clear bT
          try clear bU
          try clear bV
          try clear bW
          try clear bX
          try clear cw
          try clear cx
          try clear cy
          try clear cz
          try clear cF
          try clear cG
          try clear cH
          try clear cI
          try clear cJ
          try clear dq
          try clear dr
          try clear dt
          try clear du
          try clear dv
          try clear eg
          try clear eh
          try clear ei
          try clear ej
          try clear ce
          try clear cf
          try clear cg
          try clear ch
          try clear ci
          try clear cR
          try clear cS
          try clear cU
          try clear cV
          try clear cW
          try clear p2
          try clear dX
          try clear cQ
          try clear dB
          try clear p6
          try clear q2
          try clear q29
          try clear q292
          try clear q304
          obtain ⟨am, al, ao, rfl, HA, HK3, ae, aa, ac, ab, ar, HB⟩ := hrel
          cases gk with
          | zero => exact absurd HA.out (by simp [impl_GenDegen.l2])
          | succ k3 =>
           have H := HA.out; clear HA; simp only [impl_GenDegen.l2] at H
           by_cases dw : am < ji4
           ·rw [if_pos dw] at H; have eT : decide (am < ji4) = true := decide_eq_true dw; clear dw; replace H := bI H; obtain ⟨⟨cX, cY⟩, eJ, H⟩ := H; replace H : (if al.length < 4398046511104 then (impl_GenDegen.l2 k3 ji4 l0_4 (l0_4.length : Int) ad ji4 (wrap64 (am + 1)) a0_0 a0_1 a0_2 a0_3 l0_4 a0_0 ag ah (al ++ [(⟨wrap64 ((wrap64 (((rd_T46 l0_4 ad).f0) * ji4)) + am), ((rd_T46 l0_4 ad).f1), wrap64 ((wrap64 (((rd_T46 l0_4 ad).f2) * ji4)) + cX), cY⟩ : S48)]) ((rd_T46 l0_4 ad).f0) ((rd_T46 l0_4 ad).f1) ((rd_T46 l0_4 ad).f2) ((rd_T46 l0_4 ad).f3)) else (none)) = some (r1, r2, r3, r4, r5) := H; have gN := Aside0.mk eJ; clear eJ
            by_cases dZ : al.length < 4398046511104
            ·rw [if_pos dZ] at H; have LMc60 := Aside0.mk dZ; clear dZ; obtain ⟨dG, cP⟩ : ∃ y_ : List (S48), y_ = (al ++ [(⟨wrap64 ((wrap64 (((rd_T46 l0_4 ad).f0) * ji4)) + am), ((rd_T46 l0_4 ad).f1), wrap64 ((wrap64 (((rd_T46 l0_4 ad).f2) * ji4)) + cX), cY⟩ : S48)]) := ⟨_, rfl⟩
             replace H : (impl_GenDegen.l2 k3 ji4 l0_4 (l0_4.length : Int) ad ji4 (wrap64 (am + 1)) a0_0 a0_1 a0_2 a0_3 l0_4 a0_0 ag ah dG ((rd_T46 l0_4 ad).f0) ((rd_T46 l0_4 ad).f1) ((rd_T46 l0_4 ad).f2) ((rd_T46 l0_4 ad).f3)) = some (r1, r2, r3, r4, r5) := by first | (rw [cP]; with_reducible exact H) | (have H2_ := (Option.bind_some _ _).symm.trans H; rw [cP]; with_reducible exact H2_) | (have H2_ := (Option.bind_some _ _).symm.trans H; with_reducible exact H2_) | with_reducible exact H | (rw [cP]; exact H) | exact H
             have eU := Aside0.mk cP; clear cP; have H' := Aside0.mk H; clear H; obtain ⟨hP, hQ⟩ := nn db; obtain ⟨hR, hS⟩ := nn dc; obtain ⟨hT, hU⟩ := nn dd; obtain ⟨ek, el, em, en, eo, ep, eq, er⟩ := cz4 ar; obtain ⟨hV, hW⟩ := nn ap; obtain ⟨hX, hY⟩ := nn aG; obtain ⟨es, et, eu, ev, ew, ex, ey, ez, eA, eB⟩ := cz5 aa
             go_wp2_with (first | ((with_reducible refine gate_callee (f := 23) rfl ?_); refine gl_ (some 82) Try.func23 #[.int .i64 ((rd_T46 l0_4 ad).f3), .int .i64 am, .int .i64 a0_3] ?_; (with_reducible refine (impl_waitFor.calls k3 ((rd_T46 l0_4 ad).f3) am a0_3 cX cY _ gN.out).mono ?_); rintro e w' ⟨rfl, ⟨nd, rfl⟩⟩; refine ⟨_, rfl, ?_⟩; (try (rw [drewN_self wr]; generalize hq_ : World.drewN wr _ = wr; have cl := uR hq_ ae; have cm := uB hq_ aa; have cn := uB hq_ ac; have co := uB hq_ ab; have cp := uB hq_ ar; have cq := uS hq_ HB; clear ae aa ac ab ar HB hq_; have ae := cl; have aa := cm; have ac := cn; have ab := co; have ar := cp; have HB := cq; clear cl cm cn co cp cq; obtain ⟨es, et, eu, ev, ew, ex, ey, ez, eA, eB⟩ := cz5 aa; obtain ⟨ek, el, em, en, eo, ep, eq, er⟩ := cz4 ar)); obtain ⟨hZ, ia⟩ := nn aq; obtain ⟨fp, fq, fr, fs, ft, fu, fv, fw⟩ := cz4 ab) | ((with_reducible refine gate_builtin (b := .append) (xs := #[.tmp 86, .tmp 103]) rfl ?_); (try (refine gate_guard (by rfl) ?_; dsimp only)); at_builtin; refine Kd.R_append k48 (w0 := w) w.heap.size rfl (.tmp 86) (.tmp 103) 26 48 (.agg #[(.int .i64 0), (.int .i64 0), (.int .i64 0), (.bool false)]) 32 rfl Try.underlying26 info48 rfl (by decide) (by omega) ao al (⟨wrap64 ((wrap64 (((rd_T46 l0_4 ad).f0) * ji4)) + am), ((rd_T46 l0_4 ad).f1), wrap64 ((wrap64 (((rd_T46 l0_4 ad).f2) * ji4)) + cX), cY⟩ : S48) [.int .i64 (wrap64 ((wrap64 (((rd_T46 l0_4 ad).f0) * ji4)) + am)), .int .i64 ((rd_T46 l0_4 ad).f1), .int .i64 (wrap64 ((wrap64 (((rd_T46 l0_4 ad).f2) * ji4)) + cX)), .bool cY] (fun _ => True) (fun _ => False) rfl rfl ?aP (fun _ hk => hk.elim) ?aF ?aO ?aB ?aS ?aL ?_; (case aP => exact k48_mkM _ _ _ (⟨wrap64 ((wrap64 (((rd_T46 l0_4 ad).f0) * ji4)) + am), ((rd_T46 l0_4 ad).f1), wrap64 ((wrap64 (((rd_T46 l0_4 ad).f2) * ji4)) + cX), cY⟩ : S48)); (case aB => exact (zS HB.out)); (case aF => exact (fun _ _ => trivial)); (case aO => exact (zR ae.out)); (case aS => exact (below_size (zS HB.out))); (case aL => have := LMc60.out; omega); intro ip iz ho hb hg hat; rw [← eU.out] at ho; have cl := bG aa hg ae; have cm := bG ac hg ae; have cn := bG ab hg ae; have co := bG ar hg ae; have cp := Aside0.mk (hb); have cq := Aside0.mk (ho); clear aa; clear ac; clear ab; clear ar; clear HB; clear ae; have aa := cl; have ac := cm; have ab := cn; have ar := co; have HB := cp; have ea := cq; clear cl cm cn co cp cq; clear ho hb hg hat; obtain ⟨fc, fd, fe⟩ := Kd.R_slice ea.out; subst fe; obtain ⟨fx, fy, fz, fA, fB, fC, fD, fE⟩ := cz4 ab))
             (first | go_roundg k3 | ((try simp only [← hji4]); go_roundg k3))
             case measure => have := HJ4.out; have := HK2.out; have := HK3.out; omega
             case rel => exact ⟨(wrap64 (am + 1)), (dG), (.slice fc dG.length fd), vv, (by first | exact H' | (have h_ := H'; (try simp only [← hji4] at h_); (try simp only [← hji4]); exact h_)), ⟨by have := HJ4.out; have := HK2.out; have := HK3.out; omega⟩, ⟨rM (Aside0.mk (yF1 ea ab)) (fun _ hk => trivial)⟩, ⟨zB aa.out⟩, ⟨zB ac.out⟩, ⟨by (with_reducible repeat (first | refine blk_drewN ?_ _ | refine blk_drew ?_ | refine blk_alloc ?_ _)); refine blk_put (cs := #[.int .i64 a0_0, .int .i64 ag, .int .i64 ah, ao]) ?_ 3 _ rfl; (with_reducible repeat (first | refine blk_drewN ?_ _ | refine blk_drew ?_ | refine blk_alloc ?_ _)); exact ab.out⟩, ⟨zB ar.out⟩, ⟨zS HB.out⟩⟩
            ·rw [if_neg dZ] at H; exact absurd H (by simp)
           ·rw [if_neg dw] at H; have eT : decide (am < ji4) = false := decide_eq_false dw; clear dw; have H' := Aside0.mk H; clear H
            go_wp2
            (first | go_roundg k3 | ((try simp only [← hji4]); go_roundg k3))
            case measure => have := HJ4.out; have := HK2.out; have := HK3.out; omega
            case rel => exact ⟨(wrap64 (ad + 1)), (al), (ao), vv, (by first | exact H' | (have h_ := H'; (try simp only [← hji4] at h_); (try simp only [← hji4]); exact h_)), ⟨by have := HJ4.out; have := HK2.out; have := HK3.out; omega⟩, ⟨zR ae.out⟩, ⟨zB aa.out⟩, ⟨zB ac.out⟩, ⟨zB ab.out⟩, ⟨zS HB.out⟩⟩
        ·rw [if_neg dE] at H; exact absurd H (by simp)
       ·rw [if_neg dD] at H; exact absurd H (by simp)
      ·rw [if_neg dh] at H; have dY : decide (ad < (l0_4.length : Int)) = false := decide_eq_false dh; clear dh; replace H := bI H; obtain ⟨aD, eK, H⟩ := H; replace H : ((impl_rightAuto.f k2 a0_0 ag ah aD).bind fun bt297 => (some (bt297.1, bt297.2.1, bt297.2.2.1, bt297.2.2.2.1, bt297.2.2.2.2))) = some (r1, r2, r3, r4, r5) := H; have gO := Aside0.mk eK; clear eK; replace H := bI H; obtain ⟨⟨dH, dI, dJ, dK, eL⟩, eM, H⟩ := H; replace H : (some (dH, dI, dJ, dK, eL)) = some (r1, r2, r3, r4, r5) := H; have gP := Aside0.mk eM; clear eM; simp only [Option.some.injEq, Prod.mk.injEq] at H; obtain ⟨rfl, rfl, rfl, rfl, rfl⟩ := H; obtain ⟨ib, ic⟩ := nn au; obtain ⟨id, ie⟩ := nn aq; obtain ⟨fF, fG, fH, fI, fJ, fK, fL, fM⟩ := cz4 ab; obtain ⟨di, dj, ff⟩ := Kd.R_slice ae.out; subst ff
       go_wp2_with (first | ((with_reducible refine gate_callee (f := 24) rfl ?_); refine gl_ (some 110) Try.func24 #[.slice di ai.length dj] ?_; (with_reducible refine (impl_ordered.calls k2 _ _ ai aD _ ?side1 ?side2 gO.out).mono ?_); (case side1 => exact sC ae); (case side2 => exact sL ae); rintro e gQ ⟨iq, rfl, ho0, hb⟩; refine ⟨_, rfl, ?_⟩; have aC := rW1 ho0 ae HB; replace ae := xE ae ho0 hb; replace aa := xB aa hb; replace ac := xB ac hb; replace ab := xB ab hb; replace HB := xS HB hb; (try clear hb); (try clear hb2); (try clear hk); (try clear hi); (try clear ho0); obtain ⟨cK, cL, fg⟩ := Kd.R_slice aC.out; subst fg; obtain ⟨fN, fO, fP, fQ, fR, fS, fT, fU⟩ := cz4 ab) | ((with_reducible refine gate_store (t := 26) (p := 111) rfl ?_); refine store_event (t := 26) (p := 111) (v := ?vo_w82) (w1 := (gQ.setCell ⟨af, 3, none⟩ (.slice cK aD.length cL))) ?hg ?ho ?hn ?hr ?_; (case ho => rfl); (case hg => rfl); (case hn => rfl); (case hr => first | (go_simp; done) | (go_simp; rfl)); intro dx hw; have cl : Aside0 (Kd.R k48 48 dx w.heap.size (fun k_ => some k_ ≠ (.slice cK aD.length cL : Value).ownBlock) (.slice di ai.length dj) ai) := ⟨(by rw [hw]; exact (rM (Aside0.mk (yF1 ae ab)) (fun _ hk => hk.1.2)))⟩; have cm : Aside0 (Kd.R k48 48 dx w.heap.size (fun k_ => some k_ ≠ (.slice di ai.length dj : Value).ownBlock) (.slice cK aD.length cL) aD) := ⟨(by rw [hw]; exact (rM (Aside0.mk (yF1 aC ab)) (fun _ hk => hk.1.2)))⟩; have cn : Aside0 (dx.heap[aE]? = some (.cells #[.int .i64 a0_0, .int .i64 a0_1, .int .i64 a0_2, .int .i64 a0_3, .slice A0_4 l0_4.length c0_4] 33 (0, 0))) := ⟨(by rw [hw]; exact (zB aa.out))⟩; have co : Aside0 (dx.heap[av]? = some (.cells #[.int .i64 ay, .int .i64 az, .int .i64 aA, .slice none 0 0] 28 (0, 0))) := ⟨(by rw [hw]; exact (zB ac.out))⟩; have cp : Aside0 (dx.heap[af]? = some (.cells #[.int .i64 a0_0, .int .i64 ag, .int .i64 ah, .slice cK aD.length cL] 28 (0, 0))) := ⟨(by rw [hw]; exact (by (with_reducible repeat (first | refine blk_drewN ?_ _ | refine blk_drew ?_ | refine blk_alloc ?_ _)); refine blk_put (cs := #[.int .i64 a0_0, .int .i64 ag, .int .i64 ah, .slice di ai.length dj]) ?_ 3 _ rfl; (with_reducible repeat (first | refine blk_drewN ?_ _ | refine blk_drew ?_ | refine blk_alloc ?_ _)); exact ab.out))⟩; have cq : Aside0 (Below w.heap.size w dx) := ⟨(by rw [hw]; exact (zS HB.out))⟩; clear hw; clear ae; clear aC; clear aa; clear ac; clear ab; clear HB; have ae := cl; have aC := cm; have aa := cn; have ac := co; have ab := cp; have HB := cq; clear cl cm cn co cp cq; obtain ⟨fV, fW, fX, fY, fZ, ga, gb, gc⟩ := cz4 ab) | ((with_reducible refine gate_callee (f := 25) rfl ?_); refine gl_ (some 113) Try.func25 #[.agg #[.int .i64 a0_0, .int .i64 ag, .int .i64 ah, .slice cK aD.length cL]] ?_; (with_reducible refine (impl_rightAuto.calls k2 a0_0 ag ah (fun k_ => some k_ = (.slice cK aD.length cL : Value).ownBlock) (.slice cK aD.length cL) aD dH dI dJ dK eL w _ ?side1 ?side2 gP.out).mono ?_); (case side1 => repeat (first | (with_reducible first | exact HB.out | apply below_alloc | apply pw_below_drewN | apply below_drew1 | refine below_set ?_ dL.out | refine below_set ?_ dM.out | refine below_set ?_ eP.out) | exact HB.out)); (case side2 => exact Kd.R_tight rfl aC.out); rintro e iA ⟨fh, rfl, ho0, hb, hkp⟩; refine ⟨_, rfl, ?_⟩; have cl := Aside0.mk (Kd.R_mono (ok' := fun k_ => some k_ ≠ (fh : Value).ownBlock) (Kd.R_keptB (ae.out) hkp (fun k_ hk_ hs_ => (hk_) hs_)) (fun k_ hk_ => fun e_ => Or.elim (ho0.1 k_ e_.symm) (fun hs_ => hk_.2.1 hs_) (fun hn_ => Nat.not_le.2 hk_.2.2 hn_))); have cm := Aside0.mk (blk_kept (zB aa.out) hkp (fun hs_ => (fun e_ => (Kd.R_ne aC.out aa.out (by decide)) e_) hs_)); have cn := Aside0.mk (blk_kept (zB ac.out) hkp (fun hs_ => (fun e_ => (Kd.R_ne aC.out ac.out (by decide)) e_) hs_)); have co := Aside0.mk (blk_kept (zB ab.out) hkp (fun hs_ => (fun e_ => (Kd.R_ne aC.out ab.out (by decide)) e_) hs_)); have cp := Aside0.mk (Kd.R_mono (ok' := fun k_ => some k_ ≠ (.slice di ai.length dj : Value).ownBlock) ho0 (fun k_ hk_ => Or.elim hk_ (fun hs_ => fun e_ => (((ae.out).1 k_ e_.symm)) hs_) (fun hn_ => (Kd.fresh' (Kd.R_lt (zR ae.out)) k_ hn_)))); have cq := Aside0.mk (hb); clear ae; clear aa; clear ac; clear ab; clear HB; clear aC; have ae := cl; have aa := cm; have ac := cn; have ab := co; have eb := cp; have HB := cq; clear cl cm cn co cp cq; (try clear hb); (try clear hkp); (try clear ho0); obtain ⟨ig, ih⟩ := nn bY; obtain ⟨gd, ge, gf, gg, gh, gi, gj, gl⟩ := cz4 ac; obtain ⟨fi, fj, fk⟩ := Kd.R_slice eb.out; subst fk))
       refine bodyPost_ret (results_ct rfl _ _ av 28 #[.int .i64 dH, .int .i64 dI, .int .i64 dJ, .slice fi dK.length fj] (0, 0) _ rfl (xP4 ac.out) Try.underlying28 rfl (by kernel_rfl)) rfl ?_; exact ⟨_, by first | rfl | (simp [errW_none, errW_some] <;> rfl) | (simp only [← hji4]; first | rfl | (simp [errW_none, errW_some] <;> rfl)) | (simp [*, errW_none, errW_some] <;> rfl), rM (Aside0.mk (yF4 eb ac)) (fun _ hk => trivial), zS HB.out⟩
 ·replace c3 := Bool.eq_false_iff.mpr c3; subst c3
  have H1 : (some (0, 0, 0, ([] : List (S48)), false)) = some (r1, r2, r3, r4, r5) := by rw [if_neg (show ¬ (false = true) by decide)] at H; exact H
  clear H; have H := H1; clear H1; simp only [Option.some.injEq, Prod.mk.injEq] at H; obtain ⟨rfl, rfl, rfl, rfl, rfl⟩ := H
  go_enter Try.func7, Try.ntmps7
  go_wp2_with (first | ((with_reducible refine gate_dst (N := 1) rfl ?_); (try (refine gate_guard (by rfl) ?_; dsimp only)); refine bx_ 1 #[.int .i64 a0_0, .int .i64 a0_1, .int .i64 a0_2, .int .i64 a0_3, .slice A0_4 l0_4.length c0_4] 33 ?_; intro aE hg iB hbox hb; have aa := Aside0.mk (hbox); have eN := xG HB hg; have dL := xG HB hg; replace HB := xS HB hb; clear hb hbox hg) | ((with_reducible refine gate_dst (N := 2) rfl ?_); (try (refine gate_guard (by rfl) ?_; dsimp only)); refine bx_ 2 #[.int .i64 0, .int .i64 0, .int .i64 0, .slice none 0 0] 28 ?_; intro av hg iC hbox hb; have ac := Aside0.mk (hbox); have eO := xG HB hg; have dM := xG HB hg; replace HB := xS HB hb; have ap := xN aa hg; have bY := xM aa hg; replace aa := xB aa hb; clear hb hbox hg; obtain ⟨ii, ij⟩ := nn ap; obtain ⟨gm, gn, go, gp, gq, gr, gs, gt, gu, gv⟩ := cz5 aa) | ((with_reducible refine gate_callee (f := 20) rfl ?_); refine gl_ (some 14) Try.func20 #[.agg #[.int .i64 a0_0, .int .i64 a0_1, .int .i64 a0_2, .int .i64 a0_3, .slice A0_4 l0_4.length c0_4]] ?_; (with_reducible refine (impl_GenOk.calls k a0_0 a0_1 a0_2 a0_3 _ _ l0_4 false _ ?side1 ?side2 A2.out).mono ?_); (case side1 => exact zC (Kd.C_below HR0_4.out HB.out)); (case side2 => exact HC0_4.out); rintro e iD ⟨rfl, hb⟩; refine ⟨_, rfl, ?_⟩; replace aa := xB aa hb; replace ac := xB ac hb; replace HB := xS HB hb; (try clear hb); (try clear hb2); (try clear hk); (try clear hi); obtain ⟨gw, gx, gy, gz, gA, gB, gC, gD⟩ := cz4 ac))
  refine bodyPost_ret (results_ct rfl _ _ av 28 #[.int .i64 0, .int .i64 0, .int .i64 0, .slice none 0 0] (0, 0) _ rfl (xP4 ac.out) Try.underlying28 rfl (by kernel_rfl)) rfl ?_; exact ⟨_, vw, by first | exact Kd.R_nil _ _ _ _ _ | exact Kd.N_nil _ _ _ _ _ | exact Kd.V_nil _ _ _ _ _ | exact Kd.Q_nil _ _ _ _ _ | exact Kd.S_nil _ _ _ _ _, zS HB.out⟩

end Go.Proofs.Ytnflbjdmbaaokaa.MFnExactGenDegen
