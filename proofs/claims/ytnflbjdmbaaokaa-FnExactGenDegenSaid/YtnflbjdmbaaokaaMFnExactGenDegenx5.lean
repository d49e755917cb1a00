-- Written by a program of this session, out of Lean's print of the translation. Not trusted: Lean checks it.
import Derived.Test.YtnflbjdmbaaokaaMFnExactGenDegenx0
import Derived.Test.YtnflbjdmbaaokaaMFnExactGenDegenx1
import Derived.Test.YtnflbjdmbaaokaaMFnExactGenDegenx3
import Derived.Test.YtnflbjdmbaaokaaMFnExactGenDegenx4
namespace Go.Proofs.Ytnflbjdmbaaokaa.MFnExactGenDegen
open Go.RowKit Go.Proofs.YtnflbjdmbaaokaaW.PrintWords Go.Proofs.YtnflbjdmbaaokaaW.PrintLast Go.Proofs.YtnflbjdmbaaokaaW.PrintMore Go.Proofs.Ytnflbjdmbaaokaa.Short6
attribute [local go_sem] max2_int min2_int max_two min_two max_three min_three max_four min_four   -- for this text's walks alone
set_option linter.unusedVariables false
set_option linter.unusedSimpArgs false

section
open Go.Proofs.Ytnflbjdmbaaokaa.Short2.T
abbrev spec_AutoMake.bl0 : Array Bool := #[f, f, f, f, f, f, f, f, f, f, f, f, f, f, f, f, f, f, f, f, f, f, f, f, f]
abbrev spec_AutoMake.bl1 : Array Bool := #[t, f, f, f, f, f, f, f, f, f, f, f, f, f, f, f, f, f, f, f, f, f, f, f, f]
abbrev spec_AutoMake.bl2 : Array Bool := #[t, f, t, f, f, f, f, f, f, f, f, f, f, f, f, f, f, f, f, f, f, f, f, f, f]
abbrev spec_AutoMake.bl3 : Array Bool := #[t, f, t, t, f, f, f, f, f, f, f, f, f, f, f, f, f, f, f, f, f, f, f, f, f]
abbrev spec_AutoMake.bl4 : Array Bool := #[t, f, t, t, t, f, f, f, f, f, f, f, f, f, f, f, f, f, f, f, f, f, f, f, f]
abbrev spec_AutoMake.bl5 : Array Bool := #[t, f, t, t, t, t, f, f, f, f, f, f, f, f, f, f, f, f, f, f, f, f, f, f, f]
abbrev spec_AutoMake.bl6 : Array Bool := #[t, f, t, t, t, t, t, f, f, f, f, f, f, f, f, f, f, f, f, f, f, f, f, f, f]
abbrev spec_AutoMake.bl7 : Array Bool := #[t, f, t, t, t, t, t, t, f, f, f, f, f, f, f, f, f, f, f, f, f, f, f, f, f]
abbrev spec_AutoMake.bl8 : Array Bool := #[t, f, t, t, t, t, t, t, t, f, f, f, f, f, f, f, f, f, f, f, f, f, f, f, f]
abbrev spec_AutoMake.bl9 : Array Bool := #[t, f, t, t, t, t, t, t, t, t, f, f, f, f, f, f, f, f, f, f, f, f, f, f, f]
abbrev spec_AutoMake.bl10 : Array Bool := #[t, f, t, t, t, t, t, t, t, t, t, f, f, f, f, f, f, f, f, f, f, f, f, f, f]
abbrev spec_AutoMake.bl11 : Array Bool := #[t, f, t, t, t, t, t, t, t, t, t, t, f, f, f, f, f, f, f, f, f, f, f, f, f]
abbrev spec_AutoMake.bl12 : Array Bool := #[t, f, t, t, t, t, t, t, t, t, t, t, t, f, f, f, f, f, f, f, f, f, f, f, f]
abbrev spec_AutoMake.bl13 : Array Bool := #[t, f, t, t, t, t, t, t, t, t, t, t, t, t, f, f, f, f, f, f, f, f, f, f, f]
abbrev spec_AutoMake.bl14 : Array Bool := #[t, f, t, t, t, t, t, t, t, t, t, t, t, t, t, f, f, f, f, f, f, f, f, f, f]
abbrev spec_AutoMake.bl15 : Array Bool := #[t, f, t, t, t, t, t, t, t, t, t, t, t, t, t, t, f, f, f, f, f, f, f, f, f]
abbrev spec_AutoMake.bl16 : Array Bool := #[t, f, t, t, t, t, t, t, t, t, t, t, t, t, t, t, t, f, f, f, f, f, f, f, f]
abbrev spec_AutoMake.bl17 : Array Bool := #[t, f, t, t, t, t, t, t, t, t, t, t, t, t, t, t, t, t, f, f, f, f, f, f, f]
abbrev spec_AutoMake.bl18 : Array Bool := #[t, t, t, t, t, t, t, t, t, t, t, t, t, t, t, t, t, t, f, f, f, f, f, f, f]
abbrev spec_AutoMake.bl19 : Array Bool := #[t, t, t, t, t, t, t, t, t, t, t, t, t, t, t, t, t, t, t, f, f, f, f, f, f]
abbrev spec_AutoMake.bl20 : Array Bool := #[t, t, t, t, t, t, t, t, t, t, t, t, t, t, t, t, t, t, t, t, f, f, f, f, f]
abbrev spec_AutoMake.bl21 : Array Bool := #[t, t, t, t, t, t, t, t, t, t, t, t, t, t, t, t, t, t, t, t, t, f, f, f, f]
abbrev spec_AutoMake.bl22 : Array Bool := #[t, t, t, t, t, t, t, t, t, t, t, t, t, t, t, t, t, t, t, t, t, t, f, f, f]
abbrev spec_AutoMake.bl23 : Array Bool := #[t, t, t, t, t, t, t, t, t, t, t, t, t, t, t, t, t, t, t, t, t, t, t, f, f]
abbrev spec_AutoMake.bl24 : Array Bool := #[t, t, t, t, t, t, t, t, t, t, t, t, t, t, t, t, t, t, t, t, t, t, t, t, f]
abbrev spec_AutoMake.bl25 : Array Bool := #[t, t, t, t, t, t, t, t, t, t, t, t, t, t, t, t, t, t, t, t, t, t, t, t, t]
end
/-! ### spec_AutoMake: function 18 -/
mutual
def spec_AutoMake.j0 : Nat → Int → Int → List (S48) → Bool → Int → Int → Int → Option (Int × Int × Int × (List (S48)) × Bool)
 | 0, _, _, _, _, _, _, _ => none
 | k + 1, x0, x1, x3, x28, x140000, x140001, x140002 => if x28 = true then (some (0, 0, 0, ([] : List (S48)), false)) else (if 0 ≤ (wrap64 ((wrap64 (x1 * x0)) * x1)) then (if (wrap64 ((wrap64 (x1 * x0)) * x1) : Int).toNat ≤ 35184372088832 then (spec_AutoMake.l0 k x0 x1 x3 (List.replicate (wrap64 ((wrap64 (x1 * x0)) * x1) : Int).toNat 0) 0 x140000 x140001 x140002) else (none)) else (none))
def spec_AutoMake.l0 : Nat → Int → Int → List (S48) → List Int → Int → Int → Int → Int → Option (Int × Int × Int × (List (S48)) × Bool)
 | 0, _, _, _, _, _, _, _, _ => none
 | k + 1, x0, x1, x3, x11, x12, x140000, x140001, x140002 => if x12 < (x3.length : Int) then (if 0 ≤ x12 then ((spec_l4State.f ((rd_T48 x3 x12).f0) x1).bind fun t146 => (if t146 = true then ((spec_l4State.f ((rd_T48 x3 x12).f2) x1).bind fun t147 => (if t147 = true then ((spec_l1In.f ((rd_T48 x3 x12).f1) 0 (wrap64 (x0 - 1))).bind fun t148 => (spec_AutoMake.j2 k x0 x1 x3 x11 x12 (!t148) x140000 x140001 x140002 ((rd_T48 x3 x12).f0) ((rd_T48 x3 x12).f1) ((rd_T48 x3 x12).f2) ((rd_T48 x3 x12).f3))) else (spec_AutoMake.j2 k x0 x1 x3 x11 x12 true x140000 x140001 x140002 ((rd_T48 x3 x12).f0) ((rd_T48 x3 x12).f1) ((rd_T48 x3 x12).f2) ((rd_T48 x3 x12).f3)))) else (spec_AutoMake.j2 k x0 x1 x3 x11 x12 true x140000 x140001 x140002 ((rd_T48 x3 x12).f0) ((rd_T48 x3 x12).f1) ((rd_T48 x3 x12).f2) ((rd_T48 x3 x12).f3)))) else (none)) else (spec_AutoMake.l1 k x0 x1 x11 0 x140000 x140001 x140002 ([] : List (S48)))
def spec_AutoMake.j2 : Nat → Int → Int → List (S48) → List Int → Int → Bool → Int → Int → Int → Int → Int → Int → Bool → Option (Int × Int × Int × (List (S48)) × Bool)
 | 0, _, _, _, _, _, _, _, _, _, _, _, _, _ => none
 | k + 1, x0, x1, x3, x11, x12, x65, x140000, x140001, x140002, x146000, x146001, x146002, x146003 => if x65 = true then (some (0, 0, 0, ([] : List (S48)), false)) else (if x146003 = true then (if 0 ≤ (wrap64 ((wrap64 ((wrap64 ((wrap64 (x146000 * x0)) + x146001)) * x1)) + x146002)) then (if (wrap64 ((wrap64 ((wrap64 ((wrap64 (x146000 * x0)) + x146001)) * x1)) + x146002)) < (x11.length : Int) then ((spec_l1Max.f (rd x11 (wrap64 ((wrap64 ((wrap64 ((wrap64 (x146000 * x0)) + x146001)) * x1)) + x146002))) 2).bind fun t150 => (spec_AutoMake.l0 k x0 x1 x3 (x11.set ((wrap64 ((wrap64 ((wrap64 ((wrap64 (x146000 * x0)) + x146001)) * x1)) + x146002)) : Int).toNat t150) (wrap64 (x12 + 1)) x140000 x140001 x140002)) else (none)) else (none)) else (if 0 ≤ (wrap64 ((wrap64 ((wrap64 ((wrap64 (x146000 * x0)) + x146001)) * x1)) + x146002)) then (if (wrap64 ((wrap64 ((wrap64 ((wrap64 (x146000 * x0)) + x146001)) * x1)) + x146002)) < (x11.length : Int) then ((spec_l1Max.f (rd x11 (wrap64 ((wrap64 ((wrap64 ((wrap64 (x146000 * x0)) + x146001)) * x1)) + x146002))) 1).bind fun t153 => (spec_AutoMake.l0 k x0 x1 x3 (x11.set ((wrap64 ((wrap64 ((wrap64 ((wrap64 (x146000 * x0)) + x146001)) * x1)) + x146002)) : Int).toNat t153) (wrap64 (x12 + 1)) x140000 x140001 x140002)) else (none)) else (none)))
def spec_AutoMake.l1 : Nat → Int → Int → List Int → Int → Int → Int → Int → List (S48) → Option (Int × Int × Int × (List (S48)) × Bool)
 | 0, _, _, _, _, _, _, _, _ => none
 | k + 1, x0, x1, x11, x16, x140000, x140001, x140002, x140003 => if x16 < (x11.length : Int) then (if 0 ≤ x16 then (if (rd x11 x16) > 0 then (if x1 = 0 then (none) else (if x0 = 0 then (none) else (if x140003.length < 4398046511104 then (spec_AutoMake.l1 k x0 x1 x11 (wrap64 (x16 + 1)) x140000 x140001 x140002 (x140003 ++ [(⟨wrap64 (Int.tdiv (wrap64 (Int.tdiv x16 x1)) x0), Int.tmod (wrap64 (Int.tdiv x16 x1)) x0, Int.tmod x16 x1, ((rd x11 x16) == 2)⟩ : S48)])) else (none)))) else (spec_AutoMake.l1 k x0 x1 x11 (wrap64 (x16 + 1)) x140000 x140001 x140002 x140003)) else (none)) else (some (x140000, x140001, x140002, x140003, true))
end
def spec_AutoMake.f (k : Nat) (a0 : Int) (a1 : Int) (a2 : Int) (l3 : List (S48)) : Option (Int × Int × Int × (List (S48)) × Bool) := (spec_AutoOk.f k a0 a1 a2 ([] : List (S48))).bind fun t140 => (if t140 = true then (spec_AutoMake.j0 k a0 a1 l3 (decide ((l3.length : Int) > 2000)) a0 a1 a2) else (spec_AutoMake.j0 k a0 a1 l3 true a0 a1 a2))
theorem spec_AutoMake.mono_l : ∀ k, (∀ y0 y1 y2 y3 y4 y5 y6, LeO (spec_AutoMake.j0 k y0 y1 y2 y3 y4 y5 y6) (spec_AutoMake.j0 (k + 1) y0 y1 y2 y3 y4 y5 y6)) ∧ (∀ y0 y1 y2 y3 y4 y5 y6 y7, LeO (spec_AutoMake.l0 k y0 y1 y2 y3 y4 y5 y6 y7) (spec_AutoMake.l0 (k + 1) y0 y1 y2 y3 y4 y5 y6 y7)) ∧ (∀ y0 y1 y2 y3 y4 y5 y6 y7 y8 y9 y10 y11 y12, LeO (spec_AutoMake.j2 k y0 y1 y2 y3 y4 y5 y6 y7 y8 y9 y10 y11 y12) (spec_AutoMake.j2 (k + 1) y0 y1 y2 y3 y4 y5 y6 y7 y8 y9 y10 y11 y12)) ∧ (∀ y0 y1 y2 y3 y4 y5 y6 y7, LeO (spec_AutoMake.l1 k y0 y1 y2 y3 y4 y5 y6 y7) (spec_AutoMake.l1 (k + 1) y0 y1 y2 y3 y4 y5 y6 y7))
 | 0 => ⟨fun _ _ _ _ _ _ _ r h => by simp [spec_AutoMake.j0] at h, fun _ _ _ _ _ _ _ _ r h => by simp [spec_AutoMake.l0] at h, fun _ _ _ _ _ _ _ _ _ _ _ _ _ r h => by simp [spec_AutoMake.j2] at h, fun _ _ _ _ _ _ _ _ r h => by simp [spec_AutoMake.l1] at h⟩
 | k + 1 => by
  obtain ⟨ih0, ih1, ih2, ih3⟩ := spec_AutoMake.mono_l k
  refine ⟨?_, ?_, ?_, ?_⟩
  ·intro y0 y1 y2 y3 y4 y5 y6
   unfold spec_AutoMake.j0
   repeat' first
   | (with_reducible exact ih0 _ _ _ _ _ _ _)
   | (with_reducible exact ih1 _ _ _ _ _ _ _ _)
   | (with_reducible exact ih2 _ _ _ _ _ _ _ _ _ _ _ _ _)
   | (with_reducible exact ih3 _ _ _ _ _ _ _ _)
   | (with_reducible exact spec_AutoOk.mono _ _ _ _ _)
   | (with_reducible exact LeO.refl _)
   | (with_reducible exact LeO.none _)
   | (with_reducible refine LeO.ite ?_ ?_)
   | (with_reducible refine LeO.bind ?_ (fun _ => ?_))
   | exact ih0 _ _ _ _ _ _ _
   | exact ih1 _ _ _ _ _ _ _ _
   | exact ih2 _ _ _ _ _ _ _ _ _ _ _ _ _
   | exact ih3 _ _ _ _ _ _ _ _
   | exact spec_AutoOk.mono _ _ _ _ _
   | exact LeO.none _
   | refine LeO.ite ?_ ?_
   | refine LeO.bind ?_ (fun _ => ?_)
  ·intro y0 y1 y2 y3 y4 y5 y6 y7
   unfold spec_AutoMake.l0
   repeat' first
   | (with_reducible exact ih0 _ _ _ _ _ _ _)
   | (with_reducible exact ih1 _ _ _ _ _ _ _ _)
   | (with_reducible exact ih2 _ _ _ _ _ _ _ _ _ _ _ _ _)
   | (with_reducible exact ih3 _ _ _ _ _ _ _ _)
   | (with_reducible exact spec_AutoOk.mono _ _ _ _ _)
   | (with_reducible exact LeO.refl _)
   | (with_reducible exact LeO.none _)
   | (with_reducible refine LeO.ite ?_ ?_)
   | (with_reducible refine LeO.bind ?_ (fun _ => ?_))
   | exact ih0 _ _ _ _ _ _ _
   | exact ih1 _ _ _ _ _ _ _ _
   | exact ih2 _ _ _ _ _ _ _ _ _ _ _ _ _
   | exact ih3 _ _ _ _ _ _ _ _
   | exact spec_AutoOk.mono _ _ _ _ _
   | exact LeO.none _
   | refine LeO.ite ?_ ?_
   | refine LeO.bind ?_ (fun _ => ?_)
  ·intro y0 y1 y2 y3 y4 y5 y6 y7 y8 y9 y10 y11 y12
   unfold spec_AutoMake.j2
   repeat' first
   | (with_reducible exact ih0 _ _ _ _ _ _ _)
   | (with_reducible exact ih1 _ _ _ _ _ _ _ _)
   | (with_reducible exact ih2 _ _ _ _ _ _ _ _ _ _ _ _ _)
   | (with_reducible exact ih3 _ _ _ _ _ _ _ _)
   | (with_reducible exact spec_AutoOk.mono _ _ _ _ _)
   | (with_reducible exact LeO.refl _)
   | (with_reducible exact LeO.none _)
   | (with_reducible refine LeO.ite ?_ ?_)
   | (with_reducible refine LeO.bind ?_ (fun _ => ?_))
   | exact ih0 _ _ _ _ _ _ _
   | exact ih1 _ _ _ _ _ _ _ _
   | exact ih2 _ _ _ _ _ _ _ _ _ _ _ _ _
   | exact ih3 _ _ _ _ _ _ _ _
   | exact spec_AutoOk.mono _ _ _ _ _
   | exact LeO.none _
   | refine LeO.ite ?_ ?_
   | refine LeO.bind ?_ (fun _ => ?_)
  ·intro y0 y1 y2 y3 y4 y5 y6 y7
   unfold spec_AutoMake.l1
   repeat' first
   | (with_reducible exact ih0 _ _ _ _ _ _ _)
   | (with_reducible exact ih1 _ _ _ _ _ _ _ _)
   | (with_reducible exact ih2 _ _ _ _ _ _ _ _ _ _ _ _ _)
   | (with_reducible exact ih3 _ _ _ _ _ _ _ _)
   | (with_reducible exact spec_AutoOk.mono _ _ _ _ _)
   | (with_reducible exact LeO.refl _)
   | (with_reducible exact LeO.none _)
   | (with_reducible refine LeO.ite ?_ ?_)
   | (with_reducible refine LeO.bind ?_ (fun _ => ?_))
   | exact ih0 _ _ _ _ _ _ _
   | exact ih1 _ _ _ _ _ _ _ _
   | exact ih2 _ _ _ _ _ _ _ _ _ _ _ _ _
   | exact ih3 _ _ _ _ _ _ _ _
   | exact spec_AutoOk.mono _ _ _ _ _
   | exact LeO.none _
   | refine LeO.ite ?_ ?_
   | refine LeO.bind ?_ (fun _ => ?_)
theorem spec_AutoMake.mono : ∀ a0 a1 a2 a3 k, LeO (spec_AutoMake.f k a0 a1 a2 a3) (spec_AutoMake.f (k + 1) a0 a1 a2 a3) := by
 intro a0 a1 a2 a3 k
 obtain ⟨ih0, ih1, ih2, ih3⟩ := spec_AutoMake.mono_l k
 unfold spec_AutoMake.f
 repeat' first
   | (with_reducible exact ih0 _ _ _ _ _ _ _)
   | (with_reducible exact ih1 _ _ _ _ _ _ _ _)
   | (with_reducible exact ih2 _ _ _ _ _ _ _ _ _ _ _ _ _)
   | (with_reducible exact ih3 _ _ _ _ _ _ _ _)
   | (with_reducible exact spec_AutoOk.mono _ _ _ _ _)
   | (with_reducible exact LeO.refl _)
   | (with_reducible exact LeO.none _)
   | (with_reducible refine LeO.ite ?_ ?_)
   | (with_reducible refine LeO.bind ?_ (fun _ => ?_))
   | exact ih0 _ _ _ _ _ _ _
   | exact ih1 _ _ _ _ _ _ _ _
   | exact ih2 _ _ _ _ _ _ _ _ _ _ _ _ _
   | exact ih3 _ _ _ _ _ _ _ _
   | exact spec_AutoOk.mono _ _ _ _ _
   | exact LeO.none _
   | refine LeO.ite ?_ ?_
   | refine LeO.bind ?_ (fun _ => ?_)
def spec_AutoMake.T20 : Bool × List (List Nat × List Nat) := (true, [([], []), ([0], [0]), ([], []), ([], []), ([2, 3], [2, 3]), ([], []), ([4, 5], [4, 5]), ([], []), ([], []), ([7, 8], [7, 8]), ([], []), ([9, 10], [9, 10]), ([], []), ([], []), ([12, 13], [12, 13]), ([], []), ([], []), ([15, 16], [15, 16]), ([17], [17]), ([18], [18]), ([6, 11, 14, 19], [6, 11, 14, 19]), ([20], [20]), ([1, 21], [1, 21]), ([0, 1, 2, 3, 4, 5, 6, 7, 8, 9, 10, 11, 12, 13, 14, 15, 16, 17, 18, 19, 20, 21, 22], []), ([23, 22, 22, 0, 1, 2, 3, 4, 5, 6, 7, 8, 9, 10, 11, 12, 13, 14, 15, 16, 17, 18, 19, 20, 21, 22], [22, 23])])
def spec_AutoMake.B20 : List Nat := [0, 1, 0, 0, 12, 0, 60, 0, 0, 384, 0, 1920, 0, 0, 12288, 0, 0, 98304, 229376, 491520, 1048572, 2097148, 4194303, 8388607, 16777215]
theorem spec_AutoMake.tab20 : rtab .any (opsOf Try.f18 20) = spec_AutoMake.T20 := by kernel_rfl
theorem spec_AutoMake.bits20 : waitsOk spec_AutoMake.T20.2 spec_AutoMake.B20 = true := by kernel_rfl
open Go.Proofs.Ytnflbjdmbaaokaa.Short2 in
set_option maxHeartbeats 8000000 in
set_option maxRecDepth 100000 in
theorem spec_AutoMake.calls (k : Nat) (a0 : Int) (a1 : Int) (a2 : Int) (A3 : Option Addr) (c3 : Nat) (l3 : List (S48)) (r1 : Int) (r2 : Int) (r3 : Int) (r4 : List (S48)) (r5 : Bool) (w : World) (hr3 : Kd.C k48 w A3 l3.length l3) (hc3 : l3.length ≤ c3) (h : spec_AutoMake.f k a0 a1 a2 l3 = some (r1, r2, r3, r4, r5)) :
  Calls Try.prog 18 #[.int .i64 a0, .int .i64 a1, .int .i64 a2, .slice A3 l3.length c3] w fun e w' => ∃ v3_ : Value, e = .returned (.tuple #[.agg #[.int .i64 r1, .int .i64 r2, .int .i64 r3, v3_], .bool r5]) ∧ Kd.R k48 48 w' w.heap.size (fun _ => True) v3_ r4 ∧ Below w.heap.size w w' := by
 have hu28 := Try.underlying28; have hu48 := Try.underlying48; have HR3 := Aside0.mk hr3; have HC3 := Aside0.mk hc3; clear hr3 hc3; have HB := Aside0.mk (Below.refl w.heap.size w); have H : ((spec_AutoOk.f k a0 a1 a2 ([] : List (S48))).bind fun cQ => (if cQ = true then (spec_AutoMake.j0 k a0 a1 l3 (decide ((l3.length : Int) > 2000)) a0 a1 a2) else (spec_AutoMake.j0 k a0 a1 l3 true a0 a1 a2))) = some (r1, r2, r3, r4, r5) := h; clear h; have HC5 := Aside0.mk H; clear H
 go_enter Try.func18, Try.ntmps18
 go_upto_region 2 with (first | ((with_reducible refine gate_dst (N := 8) rfl ?_); (try (refine gate_guard (by rfl) ?_; dsimp only)); refine bx_ 8 #[.int .i64 0, .int .i64 0, .int .i64 0, .slice none 0 0] 28 ?_; intro au hg w6 hbox hb; have ad := Aside0.mk (hbox); have fl := xG HB hg; have fm := xG HB hg; replace HB := xS HB hb; clear hb hbox hg) | ((with_reducible refine gate_dst (N := 10) rfl ?_); (try (refine gate_guard (by rfl) ?_; dsimp only)); refine bx_ 10 #[.int .i64 0, .int .i64 0, .int .i64 0, .slice none 0 0] 28 ?_; intro ap hg w7 hbox hb; have ac := Aside0.mk (hbox); have fn := xG HB hg; have fo := xG HB hg; replace HB := xS HB hb; have ax := xN ad hg; have aq := xM ad hg; replace ad := xB ad hb; clear hb hbox hg; obtain ⟨gh, gi⟩ := nn aq; obtain ⟨aZ, ba, bb, bc, bd, be, bf, bg⟩ := cz4 ac))
 (try simp only [Act.put, q3])
 go_cut [28] (fun eT wc => ∃ (kq : Nat) (bF : Bool), eT = .bool bF ∧ Aside0 (spec_AutoMake.j0 kq a0 a1 l3 bF a0 a1 a2 = some (r1, r2, r3, r4, r5)) ∧ Aside0 (kq ≤ k) ∧ Aside0 (wc.heap[au]? = some (.cells #[.int .i64 0, .int .i64 0, .int .i64 0, (.slice none 0 0)] 28 (0, 0))) ∧ Aside0 (wc.heap[ap]? = some (.cells #[.int .i64 a0, .int .i64 a1, .int .i64 a2, (.slice none 0 0)] 28 (0, 0))) ∧ Aside0 (Below w.heap.size w wc))
 case first =>
  have H := HC5.out; clear HC5; replace H := bI H; obtain ⟨cQ, dF, H⟩ := H; replace H : (if cQ = true then (spec_AutoMake.j0 k a0 a1 l3 (decide ((l3.length : Int) > 2000)) a0 a1 a2) else (spec_AutoMake.j0 k a0 a1 l3 true a0 a1 a2)) = some (r1, r2, r3, r4, r5) := H; have ek := Aside0.mk dF; clear dF
  by_cases bv : cQ = true
  ·subst bv
   have H1 : (spec_AutoMake.j0 k a0 a1 l3 (decide ((l3.length : Int) > 2000)) a0 a1 a2) = some (r1, r2, r3, r4, r5) := by rw [if_pos rfl] at H; exact H
   clear H; have H := H1; clear H1; have H' := Aside0.mk H; clear H; obtain ⟨fp, fq⟩ := nn aq; obtain ⟨ay, az, aA, aC, aD, aE, aG, aH⟩ := cz4 ac
   go_wp2_with (first | ((with_reducible refine gate_callee (f := 35) rfl ?_); refine gl_ (some 22) Try.func35 #[.agg #[.int .i64 a0, .int .i64 a1, .int .i64 a2, .slice none 0 0]] ?_; (refine (spec_AutoOk.calls k a0 a1 a2 none 0 ([] : List (S48)) true _ ?side1 ?side2 ek.out).mono ?_); (case side1 => exact Kd.C_nil _ _); (case side2 => exact Nat.le_refl _); rintro e gw ⟨rfl, hb⟩; refine ⟨_, rfl, ?_⟩; replace ad := xB ad hb; replace ac := Aside0.mk (blk_below (g := ap) (o := .cells #[.int .i64 a0, .int .i64 a1, .int .i64 a2, .slice none 0 0] 28 (0, 0)) (xP4 ac.out) hb); replace HB := xS HB hb; (try clear hb); (try clear hb2); (try clear hk); (try clear hi)))
   go_meet
   case rel => exact ⟨_, (decide ((l3.length : Int) > 2000)), vv, H', ⟨by first | omega | exact Nat.le_refl _⟩, ⟨zB ad.out⟩, ⟨zB ac.out⟩, ⟨zS HB.out⟩⟩
  ·replace bv := Bool.eq_false_iff.mpr bv; subst bv
   have H1 : (spec_AutoMake.j0 k a0 a1 l3 true a0 a1 a2) = some (r1, r2, r3, r4, r5) := by rw [if_neg (show ¬ (false = true) by decide)] at H; exact H
   clear H; have H := H1; clear H1; have H' := Aside0.mk H; clear H; obtain ⟨fr, fs⟩ := nn aq; obtain ⟨aI, aJ, aK, aM, aN, aQ, aR, aT⟩ := cz4 ac
   go_wp2_with (first | ((with_reducible refine gate_callee (f := 35) rfl ?_); refine gl_ (some 22) Try.func35 #[.agg #[.int .i64 a0, .int .i64 a1, .int .i64 a2, .slice none 0 0]] ?_; (refine (spec_AutoOk.calls k a0 a1 a2 none 0 ([] : List (S48)) false _ ?side1 ?side2 ek.out).mono ?_); (case side1 => exact Kd.C_nil _ _); (case side2 => exact Nat.le_refl _); rintro e gx ⟨rfl, hb⟩; refine ⟨_, rfl, ?_⟩; replace ad := xB ad hb; replace ac := Aside0.mk (blk_below (g := ap) (o := .cells #[.int .i64 a0, .int .i64 a1, .int .i64 a2, .slice none 0 0] 28 (0, 0)) (xP4 ac.out) hb); replace HB := xS HB hb; (try clear hb); (try clear hb2); (try clear hk); (try clear hi)))
   go_meet
   case rel => exact ⟨_, (true), vv, H', ⟨by first | omega | exact Nat.le_refl _⟩, ⟨zB ad.out⟩, ⟨zB ac.out⟩, ⟨zS HB.out⟩⟩
 case rest =>
  clear HC5
  try clear c1
  try clear p2
  try clear c3
  try clear c8
  try clear bv
  try clear dG
  try clear dH
  try clear ay az aA aC
  try clear aI aJ aK aM
  try clear aZ ba bb bc
  try clear aD
  try clear aE
  try clear aG
  try clear aH
  try clear aN
  try clear aQ
  try clear aR
  try clear aT
  try clear bd
  try clear be
  try clear bf
  try clear bg
  obtain ⟨kq, bF, rfl, HA, HJ4, ad, ac, HB⟩ := hcut
  cases kq with
  | zero => exact absurd HA.out (by simp [spec_AutoMake.j0])
  | succ kj4 =>
   have H := HA.out; clear HA; simp only [spec_AutoMake.j0] at H
   by_cases bH : bF = true
   ·subst bH
    have H1 : (some (0, 0, 0, ([] : List (S48)), false)) = some (r1, r2, r3, r4, r5) := by rw [if_pos rfl] at H; exact H
    clear H; have H := H1; clear H1; simp only [Option.some.injEq, Prod.mk.injEq] at H; obtain ⟨rfl, rfl, rfl, rfl, rfl⟩ := H; obtain ⟨ft, fu⟩ := nn ax; obtain ⟨bm, bn, bo, bp, bq, br, bs, bt⟩ := cz4 ad
    go_wp2
    refine bodyPost_ret (results_ct rfl _ _ au 28 #[.int .i64 0, .int .i64 0, .int .i64 0, .slice none 0 0] (0, 0) _ rfl (xP4 ad.out) Try.underlying28 rfl (by kernel_rfl)) rfl ?_; exact ⟨_, vw, by first | exact Kd.R_nil _ _ _ _ _ | exact Kd.N_nil _ _ _ _ _ | exact Kd.V_nil _ _ _ _ _ | exact Kd.Q_nil _ _ _ _ _ | exact Kd.S_nil _ _ _ _ _, zS HB.out⟩
   ·replace bH := Bool.eq_false_iff.mpr bH; subst bH
    have H1 : (if 0 ≤ (wrap64 ((wrap64 (a1 * a0)) * a1)) then (if (wrap64 ((wrap64 (a1 * a0)) * a1) : Int).toNat ≤ 35184372088832 then (spec_AutoMake.l0 kj4 a0 a1 l3 (List.replicate (wrap64 ((wrap64 (a1 * a0)) * a1) : Int).toNat 0) 0 a0 a1 a2) else (none)) else (none)) = some (r1, r2, r3, r4, r5) := by rw [if_neg (show ¬ (false = true) by decide)] at H; exact H
    clear H; have H := H1; clear H1; obtain ⟨ji21, hji21⟩ : ∃ j_ : Int, (wrap64 ((wrap64 (a1 * a0)) * a1)) = j_ := ⟨_, rfl⟩
    replace H : (if 0 ≤ (ji21) then (if (ji21 : Int).toNat ≤ 35184372088832 then (spec_AutoMake.l0 kj4 a0 a1 l3 (List.replicate (ji21 : Int).toNat 0) 0 a0 a1 a2) else (none)) else (none)) = some (r1, r2, r3, r4, r5) := by first | (rw [hji21] at H; exact H) | (simp only [hji21] at H ⊢; exact H)
    have hji21w : (IntKind.i64.wrap ((wrap64 (a1 * a0)) * a1)) = ji21 := (i64_w _).trans hji21
    by_cases bw : 0 ≤ (ji21)
    ·rw [if_pos bw] at H; have cR := eq_true bw; have cS : decide (0 ≤ (ji21)) = true := decide_eq_true bw; clear bw
     by_cases bx : (ji21 : Int).toNat ≤ 35184372088832
     ·rw [if_pos bx] at H; have cU := eq_true bx; have cV : decide ((ji21 : Int).toNat ≤ 35184372088832) = true := decide_eq_true bx; clear bx; obtain ⟨dI, bh⟩ : ∃ y_ : List Int, y_ = (List.replicate (ji21 : Int).toNat 0) := ⟨_, rfl⟩
      replace H : (spec_AutoMake.l0 kj4 a0 a1 l3 dI 0 a0 a1 a2) = some (r1, r2, r3, r4, r5) := by first | (rw [bh]; with_reducible exact H) | (have H2_ := (Option.bind_some _ _).symm.trans H; rw [bh]; with_reducible exact H2_) | (have H2_ := (Option.bind_some _ _).symm.trans H; with_reducible exact H2_) | with_reducible exact H | (rw [bh]; exact H) | exact H
      have dm := Aside0.mk bh; clear bh; have H' := Aside0.mk H; clear H
      go_wp2_with (first | ((with_reducible refine gate_dst (N := 35) rfl ?_); (try (refine gate_guard (by rfl) ?_; dsimp only)); refine Kd.R_make (Kd.int .i64) _ 3 rfl (N := 35) rfl 51 _ _ rfl ji21 rfl rfl Try.underlying51 (.int .i64 0) 8 info3 rfl (by decide) (by omega) 0 (ok := fun _ => True) (okp := fun _ => True) rfl (fun _ hk => hk) trivial (oD) (Nat.le_trans (Nat.mul_le_mul_right _ (oD : ji21.toNat ≤ 35184372088832)) (by omega)) (Below.refl _ _) (Nat.le_refl _) ?_; intro dh gy ho25 hb hg_ hnew_; clear hg_ hnew_; (first | rw [← dm.out] at ho25 | (simp only [Int.reduceToNat] at ho25; rw [← dm.out] at ho25)); have dZ := rW0 ho25 HB; replace ad := xB ad hb; replace ac := xB ac hb; replace HB := xS HB hb; clear hb ho25))
      go_loopg [12] kj4 (fun kq eU w' => ∃ (ab : List Int) (aa : Int) (aj : Int) (ak : Int) (al : Int), eU = .int .i64 aa ∧ Aside0 (spec_AutoMake.l0 kq a0 a1 l3 ab aa a0 a1 a2 = some (r1, r2, r3, r4, r5)) ∧ Aside0 (kq ≤ kj4) ∧ Aside0 (Kd.R (Kd.int .i64) 3 w' w.heap.size (fun _ => True) dh ab) ∧ Aside0 (w'.heap[au]? = some (.cells #[.int .i64 aj, .int .i64 ak, .int .i64 al, (.slice none 0 0)] 28 (0, 0))) ∧ Aside0 (w'.heap[ap]? = some (.cells #[.int .i64 a0, .int .i64 a1, .int .i64 a2, (.slice none 0 0)] 28 (0, 0))) ∧ Aside0 (Below w.heap.size w w'))
      case atStart => exact ⟨(dI), (0), (0), (0), (0), vv, H', ⟨Nat.le_refl _⟩, ⟨zR dZ.out⟩, ⟨zB ad.out⟩, ⟨zB ac.out⟩, ⟨zS HB.out⟩⟩
      case round =>
       clear H'
       try clear c1
       try clear c2
       try clear p2
       try clear c3
       try clear p6
       try clear c8
       try clear bv
       try clear dG
       try clear dH
       try clear bH
       try clear el
       try clear bw
       try clear cR
       try clear cS
       try clear bx
       try clear cU
       try clear cV
       try clear ay az aA aC
       try clear aI aJ aK aM
       try clear bm bn bo bp
       try clear aZ ba bb bc
       try clear aD
       try clear aE
       try clear aG
       try clear aH
       try clear aN
       try clear aQ
       try clear aR
       try clear aT
       try clear bq
       try clear br
       try clear bs
       try clear bt
       try clear bd
       try clear be
       try clear bf
       try clear bg
       try clear p2
       obtain ⟨ab, aa, aj, ak, al, rfl, HA, HK2, ae, ad, ac, HB⟩ := hrel
       cases gk with
       | zero => exact absurd HA.out (by simp [spec_AutoMake.l0])
       | succ k2 =>
        have H := HA.out; clear HA; simp only [spec_AutoMake.l0] at H
        by_cases bz : aa < (l3.length : Int)
        ·rw [if_pos bz] at H; have cW : decide (aa < (l3.length : Int)) = true := decide_eq_true bz; clear bz
         by_cases bL : 0 ≤ aa
         ·rw [if_pos bL] at H; have dn : decide (0 ≤ aa) = true := decide_eq_true bL; clear bL; have HC28 := Aside0.mk H; clear H; have bJ : 0 ≤ (aa : Int) := oD; have q144 : aa < (l3.length : Int) := oD; obtain ⟨ad144, e144, aU, aV, aW, aX⟩ := at_T48 HR3.out aa bJ q144
          cases e144
          replace aU := ct_ HB aU; replace aV := ct_ HB aV; replace aW := ct_ HB aW; replace aX := ct_ HB aX; replace bJ := eq_true bJ; replace q144 := eq_true q144
          go_upto_region 9 with (first | ((with_reducible refine gate_dst (N := 13) rfl ?_); (try (refine gate_guard (by rfl) ?_; dsimp only)); refine bx_ 13 #[.int .i64 0, .int .i64 0, .int .i64 0, .bool false] 48 ?_; intro ea hg gz hbox hb; replace ae := xR ae hb; have ag := Aside0.mk (hbox); have fv := xG HB hg; have fw := xG HB hg; replace HB := xS HB hb; have cZ := xN ad hg; have am := xM ad hg; replace ad := xB ad hb; have em := xN ac hg; have an := xM ac hg; replace ac := xB ac hb; clear hb hbox hg; obtain ⟨fx, fy⟩ := nn am; obtain ⟨fz, fA⟩ := nn an; obtain ⟨bM, bN, bO, bP, bQ, bR, bS, bT⟩ := cz4 ag))
          (try simp only [Act.put, q3])
          go_cut [65] (fun eV wc => ∃ (kq : Nat) (bi : Bool), eV = .bool bi ∧ Aside0 (spec_AutoMake.j2 kq a0 a1 l3 ab aa bi a0 a1 a2 ((rd_T48 l3 aa).f0) ((rd_T48 l3 aa).f1) ((rd_T48 l3 aa).f2) ((rd_T48 l3 aa).f3) = some (r1, r2, r3, r4, r5)) ∧ Aside0 (kq ≤ k2) ∧ Aside0 (Kd.R (Kd.int .i64) 3 wc w.heap.size (fun _ => True) dh ab) ∧ Aside0 (wc.heap[au]? = some (.cells #[.int .i64 aj, .int .i64 ak, .int .i64 al, (.slice none 0 0)] 28 (0, 0))) ∧ Aside0 (wc.heap[ap]? = some (.cells #[.int .i64 a0, .int .i64 a1, .int .i64 a2, (.slice none 0 0)] 28 (0, 0))) ∧ Aside0 (wc.heap[ea]? = some (.cells #[.int .i64 ((rd_T48 l3 aa).f0), .int .i64 ((rd_T48 l3 aa).f1), .int .i64 ((rd_T48 l3 aa).f2), .bool ((rd_T48 l3 aa).f3)] 48 (0, 0))) ∧ Aside0 (Below w.heap.size w wc))
          case first =>
           have H := HC28.out; clear HC28; replace H := bI H; obtain ⟨dJ, dK, H⟩ := H; replace H : (if dJ = true then ((spec_l4State.f ((rd_T48 l3 aa).f2) a1).bind fun bu => (if bu = true then ((spec_l1In.f ((rd_T48 l3 aa).f1) 0 (wrap64 (a0 - 1))).bind fun ar => (spec_AutoMake.j2 k2 a0 a1 l3 ab aa (!ar) a0 a1 a2 ((rd_T48 l3 aa).f0) ((rd_T48 l3 aa).f1) ((rd_T48 l3 aa).f2) ((rd_T48 l3 aa).f3))) else (spec_AutoMake.j2 k2 a0 a1 l3 ab aa true a0 a1 a2 ((rd_T48 l3 aa).f0) ((rd_T48 l3 aa).f1) ((rd_T48 l3 aa).f2) ((rd_T48 l3 aa).f3)))) else (spec_AutoMake.j2 k2 a0 a1 l3 ab aa true a0 a1 a2 ((rd_T48 l3 aa).f0) ((rd_T48 l3 aa).f1) ((rd_T48 l3 aa).f2) ((rd_T48 l3 aa).f3))) = some (r1, r2, r3, r4, r5) := H; have dL := Aside0.mk dK; clear dK
           by_cases bU : dJ = true
           ·subst bU
            have H1 : ((spec_l4State.f ((rd_T48 l3 aa).f2) a1).bind fun bu => (if bu = true then ((spec_l1In.f ((rd_T48 l3 aa).f1) 0 (wrap64 (a0 - 1))).bind fun ar => (spec_AutoMake.j2 k2 a0 a1 l3 ab aa (!ar) a0 a1 a2 ((rd_T48 l3 aa).f0) ((rd_T48 l3 aa).f1) ((rd_T48 l3 aa).f2) ((rd_T48 l3 aa).f3))) else (spec_AutoMake.j2 k2 a0 a1 l3 ab aa true a0 a1 a2 ((rd_T48 l3 aa).f0) ((rd_T48 l3 aa).f1) ((rd_T48 l3 aa).f2) ((rd_T48 l3 aa).f3)))) = some (r1, r2, r3, r4, r5) := by rw [if_pos rfl] at H; exact H
            clear H; have H := H1; clear H1; replace H := bI H; obtain ⟨bu, dM, H⟩ := H; replace H : (if bu = true then ((spec_l1In.f ((rd_T48 l3 aa).f1) 0 (wrap64 (a0 - 1))).bind fun ar => (spec_AutoMake.j2 k2 a0 a1 l3 ab aa (!ar) a0 a1 a2 ((rd_T48 l3 aa).f0) ((rd_T48 l3 aa).f1) ((rd_T48 l3 aa).f2) ((rd_T48 l3 aa).f3))) else (spec_AutoMake.j2 k2 a0 a1 l3 ab aa true a0 a1 a2 ((rd_T48 l3 aa).f0) ((rd_T48 l3 aa).f1) ((rd_T48 l3 aa).f2) ((rd_T48 l3 aa).f3))) = some (r1, r2, r3, r4, r5) := H; have en := Aside0.mk dM; clear dM
            by_cases bV : bu = true
            ·subst bV
             have H1 : ((spec_l1In.f ((rd_T48 l3 aa).f1) 0 (wrap64 (a0 - 1))).bind fun ar => (spec_AutoMake.j2 k2 a0 a1 l3 ab aa (!ar) a0 a1 a2 ((rd_T48 l3 aa).f0) ((rd_T48 l3 aa).f1) ((rd_T48 l3 aa).f2) ((rd_T48 l3 aa).f3))) = some (r1, r2, r3, r4, r5) := by rw [if_pos rfl] at H; exact H
             clear H; have H := H1; clear H1; replace H := bI H; obtain ⟨ar, dN, H⟩ := H; replace H : (spec_AutoMake.j2 k2 a0 a1 l3 ab aa (!ar) a0 a1 a2 ((rd_T48 l3 aa).f0) ((rd_T48 l3 aa).f1) ((rd_T48 l3 aa).f2) ((rd_T48 l3 aa).f3)) = some (r1, r2, r3, r4, r5) := H; have eW := Aside0.mk dN; clear dN; have H' := Aside0.mk H; clear H; obtain ⟨fB, fC⟩ := nn am; obtain ⟨fD, fE⟩ := nn an; obtain ⟨bW, bX, bY, bZ, ca, cb, cc, cd⟩ := cz4 ag
             go_wp2_with (first | ((with_reducible refine gate_callee (f := 33) rfl ?_); refine gl_ (some 49) Try.func33 #[.int .i64 ((rd_T48 l3 aa).f0), .int .i64 a1] ?_; (with_reducible refine (spec_l4State.calls ((rd_T48 l3 aa).f0) a1 true _ dL.out).mono ?_); rintro e w' ⟨rfl, ⟨nd, rfl⟩⟩; refine ⟨_, rfl, ?_⟩) | (go_at_call 33; (with_reducible refine (spec_l4State.calls ((rd_T48 l3 aa).f2) a1 true _ en.out).mono ?_); rintro e w' ⟨rfl, ⟨nd, rfl⟩⟩) | (go_at_call 31; (with_reducible refine (spec_l1In.calls ((rd_T48 l3 aa).f1) 0 (wrap64 (a0 - 1)) ar _ eW.out).mono ?_); rintro e w' ⟨rfl, ⟨nd, rfl⟩⟩))
             (first | go_meet | ((try simp only [← hji21]); go_meet))
             case rel => exact ⟨_, (!ar), vv, (by first | exact H' | (have h_ := H'; (try simp only [← hji21] at h_); (try simp only [← hji21]); exact h_)), ⟨by have := HJ4.out; have := HK2.out; first | omega | exact Nat.le_refl _⟩, ⟨rM (Aside0.mk (yF4 ae ag)) (fun _ hk => trivial)⟩, ⟨zB ad.out⟩, ⟨zB ac.out⟩, ⟨by (with_reducible repeat (first | refine blk_drewN ?_ _ | refine blk_drew ?_ | refine blk_alloc ?_ _)); refine blk_put (cs := #[.int .i64 ((rd_T48 l3 aa).f0), .int .i64 ((rd_T48 l3 aa).f1), .int .i64 ((rd_T48 l3 aa).f2), .bool false]) ?_ 3 _ rfl; (with_reducible repeat (first | refine blk_drewN ?_ _ | refine blk_drew ?_ | refine blk_alloc ?_ _)); refine blk_put (cs := #[.int .i64 ((rd_T48 l3 aa).f0), .int .i64 ((rd_T48 l3 aa).f1), .int .i64 0, .bool false]) ?_ 2 _ rfl; (with_reducible repeat (first | refine blk_drewN ?_ _ | refine blk_drew ?_ | refine blk_alloc ?_ _)); refine blk_put (cs := #[.int .i64 ((rd_T48 l3 aa).f0), .int .i64 0, .int .i64 0, .bool false]) ?_ 1 _ rfl; (with_reducible repeat (first | refine blk_drewN ?_ _ | refine blk_drew ?_ | refine blk_alloc ?_ _)); refine blk_put (cs := #[.int .i64 0, .int .i64 0, .int .i64 0, .bool false]) ?_ 0 _ rfl; (with_reducible repeat (first | refine blk_drewN ?_ _ | refine blk_drew ?_ | refine blk_alloc ?_ _)); exact ag.out⟩, ⟨zS HB.out⟩⟩
            ·replace bV := Bool.eq_false_iff.mpr bV; subst bV
             have H1 : (spec_AutoMake.j2 k2 a0 a1 l3 ab aa true a0 a1 a2 ((rd_T48 l3 aa).f0) ((rd_T48 l3 aa).f1) ((rd_T48 l3 aa).f2) ((rd_T48 l3 aa).f3)) = some (r1, r2, r3, r4, r5) := by rw [if_neg (show ¬ (false = true) by decide)] at H; exact H
             clear H; have H := H1; clear H1; have H' := Aside0.mk H; clear H; obtain ⟨fF, fG⟩ := nn am; obtain ⟨fH, fI⟩ := nn an; obtain ⟨ce, cf, cg, ch, ci, cj, ck, cl⟩ := cz4 ag
             go_wp2_with (first | ((with_reducible refine gate_callee (f := 33) rfl ?_); refine gl_ (some 49) Try.func33 #[.int .i64 ((rd_T48 l3 aa).f0), .int .i64 a1] ?_; (with_reducible refine (spec_l4State.calls ((rd_T48 l3 aa).f0) a1 true _ dL.out).mono ?_); rintro e w' ⟨rfl, ⟨nd, rfl⟩⟩; refine ⟨_, rfl, ?_⟩) | (go_at_call 33; (with_reducible refine (spec_l4State.calls ((rd_T48 l3 aa).f2) a1 false _ en.out).mono ?_); rintro e w' ⟨rfl, ⟨nd, rfl⟩⟩))
             (first | go_meet | ((try simp only [← hji21]); go_meet))
             case rel => exact ⟨_, (true), vv, (by first | exact H' | (have h_ := H'; (try simp only [← hji21] at h_); (try simp only [← hji21]); exact h_)), ⟨by have := HJ4.out; have := HK2.out; first | omega | exact Nat.le_refl _⟩, ⟨rM (Aside0.mk (yF4 ae ag)) (fun _ hk => trivial)⟩, ⟨zB ad.out⟩, ⟨zB ac.out⟩, ⟨by (with_reducible repeat (first | refine blk_drewN ?_ _ | refine blk_drew ?_ | refine blk_alloc ?_ _)); refine blk_put (cs := #[.int .i64 ((rd_T48 l3 aa).f0), .int .i64 ((rd_T48 l3 aa).f1), .int .i64 ((rd_T48 l3 aa).f2), .bool false]) ?_ 3 _ rfl; (with_reducible repeat (first | refine blk_drewN ?_ _ | refine blk_drew ?_ | refine blk_alloc ?_ _)); refine blk_put (cs := #[.int .i64 ((rd_T48 l3 aa).f0), .int .i64 ((rd_T48 l3 aa).f1), .int .i64 0, .bool false]) ?_ 2 _ rfl; (with_reducible repeat (first | refine blk_drewN ?_ _ | refine blk_drew ?_ | refine blk_alloc ?_ _)); refine blk_put (cs := #[.int .i64 ((rd_T48 l3 aa).f0), .int .i64 0, .int .i64 0, .bool false]) ?_ 1 _ rfl; (with_reducible repeat (first | refine blk_drewN ?_ _ | refine blk_drew ?_ | refine blk_alloc ?_ _)); refine blk_put (cs := #[.int .i64 0, .int .i64 0, .int .i64 0, .bool false]) ?_ 0 _ rfl; (with_reducible repeat (first | refine blk_drewN ?_ _ | refine blk_drew ?_ | refine blk_alloc ?_ _)); exact ag.out⟩, ⟨zS HB.out⟩⟩
           ·replace bU := Bool.eq_false_iff.mpr bU; subst bU
            have H1 : (spec_AutoMake.j2 k2 a0 a1 l3 ab aa true a0 a1 a2 ((rd_T48 l3 aa).f0) ((rd_T48 l3 aa).f1) ((rd_T48 l3 aa).f2) ((rd_T48 l3 aa).f3)) = some (r1, r2, r3, r4, r5) := by rw [if_neg (show ¬ (false = true) by decide)] at H; exact H
            clear H; have H := H1; clear H1; have H' := Aside0.mk H; clear H; obtain ⟨fJ, fK⟩ := nn am; obtain ⟨fL, fM⟩ := nn an; obtain ⟨cm, cn, co, cp, cq, cr, ct, cu⟩ := cz4 ag
            go_wp2_with (first | ((with_reducible refine gate_callee (f := 33) rfl ?_); refine gl_ (some 49) Try.func33 #[.int .i64 ((rd_T48 l3 aa).f0), .int .i64 a1] ?_; (with_reducible refine (spec_l4State.calls ((rd_T48 l3 aa).f0) a1 false _ dL.out).mono ?_); rintro e w' ⟨rfl, ⟨nd, rfl⟩⟩; refine ⟨_, rfl, ?_⟩))
            (first | go_meet | ((try simp only [← hji21]); go_meet))
            case rel => exact ⟨_, (true), vv, (by first | exact H' | (have h_ := H'; (try simp only [← hji21] at h_); (try simp only [← hji21]); exact h_)), ⟨by have := HJ4.out; have := HK2.out; first | omega | exact Nat.le_refl _⟩, ⟨rM (Aside0.mk (yF4 ae ag)) (fun _ hk => trivial)⟩, ⟨zB ad.out⟩, ⟨zB ac.out⟩, ⟨by (with_reducible repeat (first | refine blk_drewN ?_ _ | refine blk_drew ?_ | refine blk_alloc ?_ _)); refine blk_put (cs := #[.int .i64 ((rd_T48 l3 aa).f0), .int .i64 ((rd_T48 l3 aa).f1), .int .i64 ((rd_T48 l3 aa).f2), .bool false]) ?_ 3 _ rfl; (with_reducible repeat (first | refine blk_drewN ?_ _ | refine blk_drew ?_ | refine blk_alloc ?_ _)); refine blk_put (cs := #[.int .i64 ((rd_T48 l3 aa).f0), .int .i64 ((rd_T48 l3 aa).f1), .int .i64 0, .bool false]) ?_ 2 _ rfl; (with_reducible repeat (first | refine blk_drewN ?_ _ | refine blk_drew ?_ | refine blk_alloc ?_ _)); refine blk_put (cs := #[.int .i64 ((rd_T48 l3 aa).f0), .int .i64 0, .int .i64 0, .bool false]) ?_ 1 _ rfl; (with_reducible repeat (first | refine blk_drewN ?_ _ | refine blk_drew ?_ | refine blk_alloc ?_ _)); refine blk_put (cs := #[.int .i64 0, .int .i64 0, .int .i64 0, .bool false]) ?_ 0 _ rfl; (with_reducible repeat (first | refine blk_drewN ?_ _ | refine blk_drew ?_ | refine blk_alloc ?_ _)); exact ag.out⟩, ⟨zS HB.out⟩⟩
          case rest =>
           clear HC28
           try clear c1
           try clear p1
           try clear q1
           try clear hx1
           try clear c2
           try clear p2
           try clear c3
           try clear c4
           try clear p6
           try clear c8
           try clear bv
           try clear dG
           try clear eo
           try clear q14
           try clear hx14
           try clear dH
           try clear bH
           try clear el
           try clear bw
           try clear cR
           try clear cS
           try clear bx
           try clear cU
           try clear cV
           try clear bz
           try clear cW
           try clear bL
           try clear dn
           try clear eX
           try clear eY
           try clear eZ
           try clear bU
           try clear fa
           try clear bV
           try clear fb
           try clear fc
           try clear fd
           try clear fe
           try clear ff
           try clear fg
           try clear ay az aA aC
           try clear aI aJ aK aM
           try clear bm bn bo bp
           try clear bM bN bO bP
           try clear bW bX bY bZ
           try clear ce cf cg ch
           try clear cm cn co cp
           try clear aZ ba bb bc
           try clear aD
           try clear aE
           try clear aG
           try clear aH
           try clear aN
           try clear aQ
           try clear aR
           try clear aT
           try clear bq
           try clear br
           try clear bs
           try clear bt
           try clear bQ
           try clear bR
           try clear bS
           try clear bT
           try clear ca
           try clear cb
           try clear cc
           try clear cd
           try clear ci
           try clear cj
           try clear ck
           try clear cl
           try clear cq
           try clear cr
           try clear ct
           try clear cu
           try clear bd
           try clear be
           try clear bf
           try clear bg
           try clear aU
           try clear aV
           try clear aW
           try clear aX
           try clear bJ
           try clear p2
           try clear p6
           try clear q144
           obtain ⟨kq, bi, rfl, HA, HJ27, ae, ad, ac, ag, HB⟩ := hcut
           cases kq with
           | zero => exact absurd HA.out (by simp [spec_AutoMake.j2])
           | succ kj27 =>
            have H := HA.out; clear HA; simp only [spec_AutoMake.j2] at H
            by_cases da : bi = true
            ·subst da
             have H1 : (some (0, 0, 0, ([] : List (S48)), false)) = some (r1, r2, r3, r4, r5) := by rw [if_pos rfl] at H; exact H
             clear H; have H := H1; clear H1; simp only [Option.some.injEq, Prod.mk.injEq] at H; obtain ⟨rfl, rfl, rfl, rfl, rfl⟩ := H; obtain ⟨fN, fO⟩ := nn ax; obtain ⟨fP, fQ⟩ := nn cZ; obtain ⟨dw, dx, dy, dz, dA, dB, dC, dD⟩ := cz4 ad
             go_wp2
             refine bodyPost_ret (results_ct rfl _ _ au 28 #[.int .i64 0, .int .i64 0, .int .i64 0, .slice none 0 0] (0, 0) _ rfl (xP4 ad.out) Try.underlying28 rfl (by kernel_rfl)) rfl ?_; exact ⟨_, by first | rfl | (simp [errW_none, errW_some] <;> rfl) | (simp only [← hji21]; first | rfl | (simp [errW_none, errW_some] <;> rfl)) | (simp [*, errW_none, errW_some] <;> rfl), by first | exact Kd.R_nil _ _ _ _ _ | exact Kd.N_nil _ _ _ _ _ | exact Kd.V_nil _ _ _ _ _ | exact Kd.Q_nil _ _ _ _ _ | exact Kd.S_nil _ _ _ _ _, zS HB.out⟩
            ·replace da := Bool.eq_false_iff.mpr da; subst da
             have H1 : (if ((rd_T48 l3 aa).f3) = true then (if 0 ≤ (wrap64 ((wrap64 ((wrap64 ((wrap64 (((rd_T48 l3 aa).f0) * a0)) + ((rd_T48 l3 aa).f1))) * a1)) + ((rd_T48 l3 aa).f2))) then (if (wrap64 ((wrap64 ((wrap64 ((wrap64 (((rd_T48 l3 aa).f0) * a0)) + ((rd_T48 l3 aa).f1))) * a1)) + ((rd_T48 l3 aa).f2))) < (ab.length : Int) then ((spec_l1Max.f (rd ab (wrap64 ((wrap64 ((wrap64 ((wrap64 (((rd_T48 l3 aa).f0) * a0)) + ((rd_T48 l3 aa).f1))) * a1)) + ((rd_T48 l3 aa).f2)))) 2).bind fun av => (spec_AutoMake.l0 kj27 a0 a1 l3 (ab.set ((wrap64 ((wrap64 ((wrap64 ((wrap64 (((rd_T48 l3 aa).f0) * a0)) + ((rd_T48 l3 aa).f1))) * a1)) + ((rd_T48 l3 aa).f2))) : Int).toNat av) (wrap64 (aa + 1)) a0 a1 a2)) else (none)) else (none)) else (if 0 ≤ (wrap64 ((wrap64 ((wrap64 ((wrap64 (((rd_T48 l3 aa).f0) * a0)) + ((rd_T48 l3 aa).f1))) * a1)) + ((rd_T48 l3 aa).f2))) then (if (wrap64 ((wrap64 ((wrap64 ((wrap64 (((rd_T48 l3 aa).f0) * a0)) + ((rd_T48 l3 aa).f1))) * a1)) + ((rd_T48 l3 aa).f2))) < (ab.length : Int) then ((spec_l1Max.f (rd ab (wrap64 ((wrap64 ((wrap64 ((wrap64 (((rd_T48 l3 aa).f0) * a0)) + ((rd_T48 l3 aa).f1))) * a1)) + ((rd_T48 l3 aa).f2)))) 1).bind fun aw => (spec_AutoMake.l0 kj27 a0 a1 l3 (ab.set ((wrap64 ((wrap64 ((wrap64 ((wrap64 (((rd_T48 l3 aa).f0) * a0)) + ((rd_T48 l3 aa).f1))) * a1)) + ((rd_T48 l3 aa).f2))) : Int).toNat aw) (wrap64 (aa + 1)) a0 a1 a2)) else (none)) else (none))) = some (r1, r2, r3, r4, r5) := by rw [if_neg (show ¬ (false = true) by decide)] at H; exact H
             clear H; have H := H1; clear H1
             by_cases bK : ((rd_T48 l3 aa).f3) = true
             ·rw [if_pos bK] at H; have dp : ((rd_T48 l3 aa).f3) = true := bK; clear bK; obtain ⟨ji52, hji52⟩ : ∃ j_ : Int, (wrap64 ((wrap64 ((wrap64 ((wrap64 (((rd_T48 l3 aa).f0) * a0)) + ((rd_T48 l3 aa).f1))) * a1)) + ((rd_T48 l3 aa).f2))) = j_ := ⟨_, rfl⟩
              replace H : (if 0 ≤ (ji52) then (if (ji52) < (ab.length : Int) then ((spec_l1Max.f (rd ab (ji52)) 2).bind fun av => (spec_AutoMake.l0 kj27 a0 a1 l3 (ab.set ((ji52) : Int).toNat av) (wrap64 (aa + 1)) a0 a1 a2)) else (none)) else (none)) = some (r1, r2, r3, r4, r5) := by first | (rw [hji52] at H; exact H) | (simp only [hji52] at H ⊢; exact H)
              have hji52w : (IntKind.i64.wrap ((wrap64 ((wrap64 ((wrap64 (((rd_T48 l3 aa).f0) * a0)) + ((rd_T48 l3 aa).f1))) * a1)) + ((rd_T48 l3 aa).f2))) = ji52 := (i64_w _).trans hji52
              by_cases db : 0 ≤ (ji52)
              ·rw [if_pos db] at H; have eb : decide (0 ≤ (ji52)) = true := decide_eq_true db; clear db
               by_cases dc : (ji52) < (ab.length : Int)
               ·rw [if_pos dc] at H; have ec : decide ((ji52) < (ab.length : Int)) = true := decide_eq_true dc; clear dc; replace H := bI H; obtain ⟨av, dO, H⟩ := H; replace H : (spec_AutoMake.l0 kj27 a0 a1 l3 (ab.set ((ji52) : Int).toNat av) (wrap64 (aa + 1)) a0 a1 a2) = some (r1, r2, r3, r4, r5) := H; have fh := Aside0.mk dO; clear dO; obtain ⟨di, bj⟩ : ∃ y_ : List Int, y_ = (ab.set ((ji52) : Int).toNat av) := ⟨_, rfl⟩
                replace H : (spec_AutoMake.l0 kj27 a0 a1 l3 di (wrap64 (aa + 1)) a0 a1 a2) = some (r1, r2, r3, r4, r5) := by first | (rw [bj]; with_reducible exact H) | (have H2_ := (Option.bind_some _ _).symm.trans H; rw [bj]; with_reducible exact H2_) | (have H2_ := (Option.bind_some _ _).symm.trans H; with_reducible exact H2_) | with_reducible exact H | (rw [bj]; exact H) | exact H
                have ed := Aside0.mk bj; clear bj; have H' := Aside0.mk H; clear H; obtain ⟨fR, fS⟩ := nn am; obtain ⟨fT, fU⟩ := nn an; obtain ⟨cv, cw, cx, cy, cz, cA, cB, cC⟩ := cz4 ag; obtain ⟨gj, ep, eq⟩ := Kd.R_slice ae.out; subst eq; have cX : 0 ≤ ((ji52) : Int) := oD; have q149 : (ji52) < (ab.length : Int) := oD; obtain ⟨ad149, e149, cD⟩ := Kd.at_int (Kd.R_reads' ae.out).2.2 (ji52) cX q149
                cases e149
                replace cX := eq_true cX; replace q149 := eq_true q149
                go_wp2_with (first | ((with_reducible refine gate_callee (f := 15) rfl ?_); refine goesL_ (some 88) rfl rfl Try.func15 (by kernel_rfl) rfl #[.int .i64 (rd ab (ji52)), .int .i64 2] rfl (by (try simp only [m3]); first | done | (simp only [hji52]; rfl) | rfl | (simp only [d2]; rfl)) ?_; (with_reducible refine (spec_l1Max.calls (rd ab (ji52)) 2 av _ fh.out).mono ?_); rintro e w' ⟨rfl, ⟨nd, rfl⟩⟩; refine ⟨_, rfl, ?_⟩; (try (rw [drewN_self wc]; generalize hq_ : World.drewN wc _ = wc; have bA := uR hq_ ae; have bB := uB hq_ ad; have bC := uB hq_ ac; have bD := uB hq_ ag; have bE := uS hq_ HB; clear ae ad ac ag HB hq_; have ae := bA; have ad := bB; have ac := bC; have ag := bD; have HB := bE; clear bA bB bC bD bE; obtain ⟨cv, cw, cx, cy, cz, cA, cB, cC⟩ := cz4 ag)); have dd : 0 ≤ ((ji52) : Int) := oD; have q56 : ((ji52) : Int) < ((ab.length : Int) : Int) := oD; obtain ⟨go56, gl, dP, dQ, gl56, cl56, HG56⟩ := Kd.R_form ae.out (by omega); (first | cases dP | (injection dP with ea_ en_ ec_; (first | subst ea_ | (injection ea_ with ea_; subst ea_)); subst ec_; clear en_)); have GB56 := Aside0.mk dQ; have GG56 := Aside0.mk HG56; clear dQ gl56 HG56; (first | simp only [add_plain] at cD | skip); obtain ⟨dR, hf56_0⟩ := Kd.R_celln 0 ae.out ((ji52) : Int) dd q56; replace dd := eq_true dd; replace q56 := eq_true q56; obtain ⟨hy61_, hz61_⟩ := Kd.R_celln 0 ae.out ((ji52) : Int) (oD) (oD); have HP61 := Kd.R_putg ae.out ((ji52) : Int) av) | ((with_reducible refine gate_store (t := 3) (p := 89) rfl ?_); refine store_event (t := 3) (p := 89) (v := ?vo_w62) (w1 := (wc.setCell ⟨go56, ((ji52) : Int).toNat, none⟩ (.int .i64 av))) ?hg ?ho ?hn ?hr ?_; (case ho => rfl); (case hg => rfl); (case hn => rfl); (case hr => first | (go_simp; done) | (go_simp; rfl)); intro dS hw; have hg : wc.grownBy dS (some go56) := (by rw [hw]; exact HP61.2); have hp_ : Kd.R (Kd.int .i64) 3 dS w.heap.size (fun _ => True) (.slice (some ⟨go56, 0, none⟩) ab.length ep) di := (by rw [hw, ed.out]; exact HP61.1); clear HP61; replace ad := bG ad hg ae; replace ac := bG ac hg ae; replace ag := bG ag hg ae; replace ae := Aside0.mk (hp_); replace HB := Aside0.mk ((by rw [hw]; exact below_set (HB.out) GB56.out : Below w.heap.size w dS)); clear hg hw hp_))
                (first | go_roundg kj27 | ((try simp only [← hji21]); (try simp only [← hji52]); go_roundg kj27))
                case measure => have := HJ4.out; have := HK2.out; have := HJ27.out; omega
                case rel => exact ⟨(di), (wrap64 (aa + 1)), (aj), (ak), (al), vv, (by first | exact H' | (have h_ := H'; (try simp only [← hji21] at h_); (try simp only [← hji21]); (try simp only [← hji52] at h_); (try simp only [← hji52]); exact h_)), ⟨by have := HJ4.out; have := HK2.out; have := HJ27.out; omega⟩, ⟨zR ae.out⟩, ⟨zB ad.out⟩, ⟨zB ac.out⟩, ⟨zS HB.out⟩⟩
               ·rw [if_neg dc] at H; exact absurd H (by simp)
              ·rw [if_neg db] at H; exact absurd H (by simp)
             ·rw [if_neg bK] at H
              have dp : ((rd_T48 l3 aa).f3) = false := by simpa using bK
              clear bK; obtain ⟨ji63, hji63⟩ : ∃ j_ : Int, (wrap64 ((wrap64 ((wrap64 ((wrap64 (((rd_T48 l3 aa).f0) * a0)) + ((rd_T48 l3 aa).f1))) * a1)) + ((rd_T48 l3 aa).f2))) = j_ := ⟨_, rfl⟩
              replace H : (if 0 ≤ (ji63) then (if (ji63) < (ab.length : Int) then ((spec_l1Max.f (rd ab (ji63)) 1).bind fun aw => (spec_AutoMake.l0 kj27 a0 a1 l3 (ab.set ((ji63) : Int).toNat aw) (wrap64 (aa + 1)) a0 a1 a2)) else (none)) else (none)) = some (r1, r2, r3, r4, r5) := by first | (rw [hji63] at H; exact H) | (simp only [hji63] at H ⊢; exact H)
              have hji63w : (IntKind.i64.wrap ((wrap64 ((wrap64 ((wrap64 (((rd_T48 l3 aa).f0) * a0)) + ((rd_T48 l3 aa).f1))) * a1)) + ((rd_T48 l3 aa).f2))) = ji63 := (i64_w _).trans hji63
              by_cases de : 0 ≤ (ji63)
              ·rw [if_pos de] at H; have ee : decide (0 ≤ (ji63)) = true := decide_eq_true de; clear de
               by_cases df : (ji63) < (ab.length : Int)
               ·rw [if_pos df] at H; have ef : decide ((ji63) < (ab.length : Int)) = true := decide_eq_true df; clear df; replace H := bI H; obtain ⟨aw, dT, H⟩ := H; replace H : (spec_AutoMake.l0 kj27 a0 a1 l3 (ab.set ((ji63) : Int).toNat aw) (wrap64 (aa + 1)) a0 a1 a2) = some (r1, r2, r3, r4, r5) := H; have fi := Aside0.mk dT; clear dT; obtain ⟨dj, bk⟩ : ∃ y_ : List Int, y_ = (ab.set ((ji63) : Int).toNat aw) := ⟨_, rfl⟩
                replace H : (spec_AutoMake.l0 kj27 a0 a1 l3 dj (wrap64 (aa + 1)) a0 a1 a2) = some (r1, r2, r3, r4, r5) := by first | (rw [bk]; with_reducible exact H) | (have H2_ := (Option.bind_some _ _).symm.trans H; rw [bk]; with_reducible exact H2_) | (have H2_ := (Option.bind_some _ _).symm.trans H; with_reducible exact H2_) | with_reducible exact H | (rw [bk]; exact H) | exact H
                have eg := Aside0.mk bk; clear bk; have H' := Aside0.mk H; clear H; obtain ⟨fV, fW⟩ := nn am; obtain ⟨fX, fY⟩ := nn an; obtain ⟨cE, cF, cG, cH, cI, cJ, cK, cL⟩ := cz4 ag; obtain ⟨gm, er, es⟩ := Kd.R_slice ae.out; subst es; have cY : 0 ≤ ((ji63) : Int) := oD; have q152 : (ji63) < (ab.length : Int) := oD; obtain ⟨ad152, e152, cM⟩ := Kd.at_int (Kd.R_reads' ae.out).2.2 (ji63) cY q152
                cases e152
                replace cY := eq_true cY; replace q152 := eq_true q152
                go_wp2_with (first | ((with_reducible refine gate_callee (f := 15) rfl ?_); refine goesL_ (some 88) rfl rfl Try.func15 (by kernel_rfl) rfl #[.int .i64 (rd ab (ji63)), .int .i64 1] rfl (by (try simp only [m3]); first | done | (simp only [hji63]; rfl) | rfl | (simp only [d2]; rfl)) ?_; (with_reducible refine (spec_l1Max.calls (rd ab (ji63)) 1 aw _ fi.out).mono ?_); rintro e w' ⟨rfl, ⟨nd, rfl⟩⟩; refine ⟨_, rfl, ?_⟩; (try (rw [drewN_self wc]; generalize hq_ : World.drewN wc _ = wc; have bA := uR hq_ ae; have bB := uB hq_ ad; have bC := uB hq_ ac; have bD := uB hq_ ag; have bE := uS hq_ HB; clear ae ad ac ag HB hq_; have ae := bA; have ad := bB; have ac := bC; have ag := bD; have HB := bE; clear bA bB bC bD bE; obtain ⟨cE, cF, cG, cH, cI, cJ, cK, cL⟩ := cz4 ag)); have dg : 0 ≤ ((ji63) : Int) := oD; have q67 : ((ji63) : Int) < ((ab.length : Int) : Int) := oD; obtain ⟨go67, gn, dU, dV, gl67, cl67, HG67⟩ := Kd.R_form ae.out (by omega); (first | cases dU | (injection dU with ea_ en_ ec_; (first | subst ea_ | (injection ea_ with ea_; subst ea_)); subst ec_; clear en_)); have GB67 := Aside0.mk dV; have GG67 := Aside0.mk HG67; clear dV gl67 HG67; (first | simp only [add_plain] at cM | skip); obtain ⟨dW, hf67_0⟩ := Kd.R_celln 0 ae.out ((ji63) : Int) dg q67; replace dg := eq_true dg; replace q67 := eq_true q67; obtain ⟨hy72_, hz72_⟩ := Kd.R_celln 0 ae.out ((ji63) : Int) (oD) (oD); have HP72 := Kd.R_putg ae.out ((ji63) : Int) aw) | ((with_reducible refine gate_store (t := 3) (p := 89) rfl ?_); refine store_event (t := 3) (p := 89) (v := ?vo_w73) (w1 := (wc.setCell ⟨go67, ((ji63) : Int).toNat, none⟩ (.int .i64 aw))) ?hg ?ho ?hn ?hr ?_; (case ho => rfl); (case hg => rfl); (case hn => rfl); (case hr => first | (go_simp; done) | (go_simp; rfl)); intro dX hw; have hg : wc.grownBy dX (some go67) := (by rw [hw]; exact HP72.2); have hp_ : Kd.R (Kd.int .i64) 3 dX w.heap.size (fun _ => True) (.slice (some ⟨go67, 0, none⟩) ab.length er) dj := (by rw [hw, eg.out]; exact HP72.1); clear HP72; replace ad := bG ad hg ae; replace ac := bG ac hg ae; replace ag := bG ag hg ae; replace ae := Aside0.mk (hp_); replace HB := Aside0.mk ((by rw [hw]; exact below_set (HB.out) GB67.out : Below w.heap.size w dX)); clear hg hw hp_))
                (first | go_roundg kj27 | ((try simp only [← hji21]); (try simp only [← hji63]); go_roundg kj27))
                case measure => have := HJ4.out; have := HK2.out; have := HJ27.out; omega
                case rel => exact ⟨(dj), (wrap64 (aa + 1)), (aj), (ak), (al), vv, (by first | exact H' | (have h_ := H'; (try simp only [← hji21] at h_); (try simp only [← hji21]); (try simp only [← hji63] at h_); (try simp only [← hji63]); exact h_)), ⟨by have := HJ4.out; have := HK2.out; have := HJ27.out; omega⟩, ⟨zR ae.out⟩, ⟨zB ad.out⟩, ⟨zB ac.out⟩, ⟨zS HB.out⟩⟩
               ·rw [if_neg df] at H; exact absurd H (by simp)
              ·rw [if_neg de] at H; exact absurd H (by simp)
         ·rw [if_neg bL] at H; exact absurd H (by simp)
        ·rw [if_neg bz] at H; have cW : decide (aa < (l3.length : Int)) = false := decide_eq_false bz; clear bz; have H' := Aside0.mk H; clear H
         go_wp2
         go_loopg [16] k2 (fun kq fj w' => ∃ (af : Int) (ai : List (S48)) (ao : Value), fj = .int .i64 af ∧ Aside0 (spec_AutoMake.l1 kq a0 a1 ab af a0 a1 a2 ai = some (r1, r2, r3, r4, r5)) ∧ Aside0 (kq ≤ k2) ∧ Aside0 (Kd.R (Kd.int .i64) 3 w' w.heap.size (fun _ => True) dh ab) ∧ Aside0 (Kd.R k48 48 w' w.heap.size (fun _ => True) ao ai) ∧ Aside0 (w'.heap[au]? = some (.cells #[.int .i64 aj, .int .i64 ak, .int .i64 al, (.slice none 0 0)] 28 (0, 0))) ∧ Aside0 (w'.heap[ap]? = some (.cells #[.int .i64 a0, .int .i64 a1, .int .i64 a2, ao] 28 (0, 0))) ∧ Aside0 (Below w.heap.size w w'))
         case atStart => exact ⟨(0), (([] : List (S48))), (.slice none 0 0), vv, H', ⟨Nat.le_refl _⟩, ⟨zR ae.out⟩, ⟨by first | exact Kd.R_nil _ _ _ _ _ | exact Kd.N_nil _ _ _ _ _ | exact Kd.V_nil _ _ _ _ _ | exact Kd.Q_nil _ _ _ _ _ | exact Kd.S_nil _ _ _ _ _⟩, ⟨zB ad.out⟩, ⟨zB ac.out⟩, ⟨zS HB.out⟩⟩
         case round =>
          clear H'
          try clear c1
          try clear p1
          try clear q1
          try clear hx1
          try clear c2
          try clear p2
          try clear c3
          try clear c4
          try clear c5
          try clear p5
          try clear q5
          try clear hx5
          try clear hf5
          try clear c6
          try clear p6
          try clear q6
          try clear hx6
          try clear hf6
          try clear c8
          try clear bv
          try clear dG
          try clear eo
          try clear q14
          try clear hx14
          try clear dH
          try clear gA
          try clear q15
          try clear hx15
          try clear bH
          try clear el
          try clear bw
          try clear cR
          try clear cS
          try clear bx
          try clear cU
          try clear cV
          try clear bz
          try clear cW
          try clear bL
          try clear dn
          try clear eX
          try clear eY
          try clear eZ
          try clear bU
          try clear fa
          try clear bV
          try clear fb
          try clear fc
          try clear fd
          try clear fe
          try clear ff
          try clear fg
          try clear da
          try clear gB
          try clear gC
          try clear bK
          try clear dp
          try clear db
          try clear eb
          try clear dc
          try clear ec
          try clear dd
          try clear q56
          try clear hx56
          try clear hf56
          try clear gD
          try clear gE
          try clear de
          try clear ee
          try clear gF
          try clear df
          try clear ef
          try clear dg
          try clear q67
          try clear hx67
          try clear hf67
          try clear gG
          try clear gH
          try clear ay az aA aC
          try clear aI aJ aK aM
          try clear bm bn bo bp
          try clear bM bN bO bP
          try clear bW bX bY bZ
          try clear ce cf cg ch
          try clear cm cn co cp
          try clear dw dx dy dz
          try clear cv cw cx cy
          try clear cE cF cG cH
          try clear aZ ba bb bc
          try clear aD
          try clear aE
          try clear aG
          try clear aH
          try clear aN
          try clear aQ
          try clear aR
          try clear aT
          try clear bq
          try clear br
          try clear bs
          try clear bt
          try clear bQ
          try clear bR
          try clear bS
          try clear bT
          try clear ca
          try clear cb
          try clear cc
          try clear cd
          try clear ci
          try clear cj
          try clear ck
          try clear cl
          try clear cq
          try clear cr
          try clear ct
          try clear cu
          try clear dA
          try clear dB
          try clear dC
          try clear dD
          try clear cz
          try clear cA
          try clear cB
          try clear cC
          try clear cI
          try clear cJ
          try clear cK
          try clear cL
          try clear bd
          try clear be
          try clear bf
          try clear bg
          try clear aU
          try clear aV
          try clear aW
          try clear aX
          try clear cD
          try clear cM
          try clear dR
          try clear dW
          try clear p1
          try clear eo
          try clear bJ
          try clear cX
          try clear cY
          try clear p2
          try clear dd
          try clear p6
          try clear dg
          try clear q1
          try clear q14
          try clear q144
          try clear q149
          try clear q152
          try clear q56
          try clear q67
          obtain ⟨af, ai, ao, rfl, HA, HK3, ae, ah, ad, ac, HB⟩ := hrel
          cases gk with
          | zero => exact absurd HA.out (by simp [spec_AutoMake.l1])
          | succ k3 =>
           have H := HA.out; clear HA; simp only [spec_AutoMake.l1] at H
           by_cases cN : af < (ab.length : Int)
           ·rw [if_pos cN] at H; have eh : decide (af < (ab.length : Int)) = true := decide_eq_true cN; clear cN
            by_cases dq : 0 ≤ af
            ·rw [if_pos dq] at H; have fZ : decide (0 ≤ af) = true := decide_eq_true dq; clear dq
             by_cases cO : (rd ab af) > 0
             ·rw [if_pos cO] at H; have ei : decide (0 < (rd ab af)) = true := decide_eq_true cO; clear cO
              by_cases dr : a1 = 0
              ·rw [if_pos dr] at H; exact absurd H (by simp)
              ·rw [if_neg dr] at H; have ga : (a1 == 0) = false := beq_eq_false_iff_ne.mpr dr; have gb : (a1 != 0) = true := bne_iff_ne.mpr dr
               by_cases dt : a0 = 0
               ·rw [if_pos dt] at H; exact absurd H (by simp)
               ·rw [if_neg dt] at H; have gc : (a0 == 0) = false := beq_eq_false_iff_ne.mpr dt; have gd : (a0 != 0) = true := bne_iff_ne.mpr dt
                by_cases du : ai.length < 4398046511104
                ·rw [if_pos du] at H; have LMc79 := Aside0.mk du; clear du; obtain ⟨dk, bl⟩ : ∃ y_ : List (S48), y_ = (ai ++ [(⟨wrap64 (Int.tdiv (wrap64 (Int.tdiv af a1)) a0), Int.tmod (wrap64 (Int.tdiv af a1)) a0, Int.tmod af a1, ((rd ab af) == 2)⟩ : S48)]) := ⟨_, rfl⟩
                 replace H : (spec_AutoMake.l1 k3 a0 a1 ab (wrap64 (af + 1)) a0 a1 a2 dk) = some (r1, r2, r3, r4, r5) := by first | (rw [bl]; with_reducible exact H) | (have H2_ := (Option.bind_some _ _).symm.trans H; rw [bl]; with_reducible exact H2_) | (have H2_ := (Option.bind_some _ _).symm.trans H; with_reducible exact H2_) | with_reducible exact H | (rw [bl]; exact H) | exact H
                 have ej := Aside0.mk bl; clear bl; have H' := Aside0.mk H; clear H; obtain ⟨go, gp, et⟩ := Kd.R_slice ae.out; subst et; have aY : 0 ≤ (af : Int) := oD; have q155 : af < (ab.length : Int) := oD; obtain ⟨ad155, e155, dE⟩ := Kd.at_int (Kd.R_reads' ae.out).2.2 af aY q155
                 cases e155
                 replace aY := eq_true aY; replace q155 := eq_true q155
                 try go_wp2
                 replace ae := Aside0.mk (Kd.R_drew ae.out); replace ah := Aside0.mk (Kd.R_drew ah.out); replace ad := Aside0.mk (blk_drew ad.out); replace ac := Aside0.mk (blk_drew ac.out); replace HB := Aside0.mk (below_drew1 HB.out); have dl : 0 ≤ (af : Int) := oD; have q156 : af < (ab.length : Int) := oD; obtain ⟨ad156, e156, cP⟩ := Kd.at_int (Kd.R_reads' ae.out).2.2 af dl q156; obtain rfl : ad155 = ad156 := (by injection e156); replace dl := eq_true dl; replace q156 := eq_true q156; refine start_ (n := 25) (S := fun w' => w'.cell? ⟨ap, 0, none⟩ = some (.int .i64 a0) ∧ w'.cell? ⟨ap, 1, none⟩ = some (.int .i64 a1) ∧ w'.cell? ⟨ap, 2, none⟩ = some (.int .i64 a2) ∧ w'.cell? ⟨ap, 3, none⟩ = some (ao) ∧ w'.cell? (ad155.add (af).toNat) = some (.int .i64 (rd ab af))) (ds := [22, 24]) bl0 (by kernel_rfl) rfl rfl ⟨b1 ac 0, b1 ac 1, b1 ac 2, b1 ac 3, cP⟩ (fun hHeld => ?_); refine with_tabW spec_AutoMake.tab20 spec_AutoMake.bits20 (fun HT_ HW_ => ?_); generalize wr.drew = gI at ae ah ad ac HB cP hHeld ⊢
                 refine pv_ 0 (some 101) bl1 HT_ ?_
                 refine pv_ 2 (some 103) bl2 HT_ ?_
                 refine pv_ 3 (some 104) bl3 HT_ ?_
                 refine pv_ 4 (some 105) bl4 HT_ ?_
                 refine pv_ 5 (some 106) bl5 HT_ ?_
                 refine pv_ 6 (some 107) bl6 HT_ ?_
                 refine pv_ 7 (some 108) bl7 HT_ ?_
                 refine pv_ 8 (some 109) bl8 HT_ ?_
                 refine pv_ 9 (some 110) bl9 HT_ ?_
                 refine pv_ 10 (some 111) bl10 HT_ ?_
                 refine pv_ 11 (some 112) bl11 HT_ ?_
                 refine pv_ 12 (some 113) bl12 HT_ ?_
                 refine pv_ 13 (some 114) bl13 HT_ ?_
                 refine pv_ 14 (some 115) bl14 HT_ ?_
                 refine pv_ 15 (some 116) bl15 HT_ ?_
                 refine pv_ 16 (some 117) bl16 HT_ ?_
                 refine pv_ 17 (some 118) bl17 HT_ ?_
                 refine tk_ 1 (some 102) bl18 HT_ HW_ hHeld ?_
                 refine tk_ 18 (some 119) bl19 HT_ HW_ hHeld ?_
                 refine pv_ 19 (some 120) bl20 HT_ ?_
                 refine pv_ 20 (some 121) bl21 HT_ ?_
                 refine on_ 21 (some 122) bl22 HT_ (fun K hK => ?_); refine value_ (w1 := ?_) (v := ?_) (by rfl) rfl ?_ ?_; rotate_left 2
                 ·go_simp
                  constructor
                  ·rfl
                  ·rfl
                 refine hK.out _ _ ⟨(blk_cell (blk_alloc ac.out _) 0).trans rfl, (blk_cell (blk_alloc ac.out _) 1).trans rfl, (blk_cell (blk_alloc ac.out _) 2).trans rfl, (blk_cell (blk_alloc ac.out _) 3).trans rfl, (World.cell?_alloc_lt _ _ _ (World.block_lt_of_cell? _ _ (hHeld.2.2.2.2))).trans (hHeld.2.2.2.2)⟩ (fun hHeld => ?_); clear hK K; refine nr_ (some 122) ?_
                 refine last_ (i := 22) (N := some 123) bl23 rfl rfl (one_of HT_.out (by kernel_rfl)) (by decide) (fun K hK => ?_); refine Kd.R_append_step k48 (w0 := w) w.heap.size (by rfl) (.tmp 102) (.tmp 122) 26 48 (.agg #[(.int .i64 0), (.int .i64 0), (.int .i64 0), (.bool false)]) 32 rfl Try.underlying26 info48 rfl (by decide) (by omega) ao ai (⟨wrap64 (Int.tdiv (wrap64 (Int.tdiv af a1)) a0), Int.tmod (wrap64 (Int.tdiv af a1)) a0, Int.tmod af a1, ((rd ab af) == 2)⟩ : S48) [.int .i64 (wrap64 (Int.tdiv (wrap64 (Int.tdiv af a1)) a0)), .int .i64 (Int.tmod (wrap64 (Int.tdiv af a1)) a0), .int .i64 (Int.tmod af a1), .bool ((rd ab af) == 2)] (fun _ => True) (fun _ => False) rfl rfl ?aP (fun _ hk => hk.elim) ?aF ?aO ?aB ?aS ?aL ?_
                 (case aP => exact k48_mkM _ _ _ (⟨wrap64 (Int.tdiv (wrap64 (Int.tdiv af a1)) a0), Int.tmod (wrap64 (Int.tdiv af a1)) a0, Int.tmod af a1, ((rd ab af) == 2)⟩ : S48))
                 (case aB => exact (zS HB.out))
                 (case aF => exact (fun _ _ => trivial))
                 (case aO => exact (zR ah.out))
                 (case aS => exact (below_size (zS HB.out)))
                 (case aL => have := LMc79.out; omega)
                 intro gq fk ho hb hg hat; rw [← ej.out] at ho; have bA := Aside0.mk (Kd.R_over' (zR ae.out) (Kd.R_typed (zR ah.out)) (by decide) hg); have bB := bG ad hg ah; have bC := bG ac hg ah; have bD := Aside0.mk (hb); have bE := Aside0.mk (ho); clear ae; clear ad; clear ac; clear HB; clear ah; have ae := bA; have ad := bB; have ac := bC; have HB := bD; have dv := bE; clear bA bB bC bD bE; clear ho hb hg hat; obtain ⟨eu, ev, dY⟩ := Kd.R_slice dv.out
                 (first | subst dY | (injection dY with f1_ f2_ f3_; have f4_ := f1_.symm; have f5_ := f3_.symm; clear f1_ f2_ f3_; subst f4_; subst f5_))
                 refine hK.out _ _ ?_; clear hK K; refine nr_ (some 123) ?_
                 refine pv_ 23 (some 124) bl24 HT_ ?_
                 refine last_ (i := 24) (N := none) bl25 rfl rfl (one_of HT_.out (by kernel_rfl)) (by decide) (fun K hK => ?_); have gr : fk.cell? ⟨ap, 3, none⟩ = some (ao) := b1 ac 3; have ge := blk_frozen ac.out 3; have eB := ax.out; have eC := aq.out; refine skip_ (w1 := ?_) (by rfl) rfl ?_ ?_; rotate_left
                 ·go_simp; rfl
                 refine hK.out _ _ ?_; clear hK K; refine done_ (done_of HT_.out (by kernel_rfl)) ?_
                 try go_wp2
                 (first | go_roundg k3 | ((try simp only [← hji21]); go_roundg k3))
                 case measure => have := HJ4.out; have := HK2.out; have := HK3.out; omega
                 case rel => exact ⟨(wrap64 (af + 1)), (dk), (.slice eu dk.length ev), vv, (by first | exact H' | (have h_ := H'; (try simp only [← hji21] at h_); (try simp only [← hji21]); exact h_)), ⟨by have := HJ4.out; have := HK2.out; have := HK3.out; omega⟩, ⟨rM (Aside0.mk (yF1 ae ac)) (fun _ hk => trivial)⟩, ⟨rM (Aside0.mk (yF1 dv ac)) (fun _ hk => trivial)⟩, ⟨zB ad.out⟩, ⟨by (with_reducible repeat (first | refine blk_drewN ?_ _ | refine blk_drew ?_ | refine blk_alloc ?_ _)); refine blk_put (cs := #[.int .i64 a0, .int .i64 a1, .int .i64 a2, ao]) ?_ 3 _ rfl; (with_reducible repeat (first | refine blk_drewN ?_ _ | refine blk_drew ?_ | refine blk_alloc ?_ _)); exact ac.out⟩, ⟨zS HB.out⟩⟩
                ·rw [if_neg du] at H; exact absurd H (by simp)
             ·rw [if_neg cO] at H; have ei : decide (0 < (rd ab af)) = false := decide_eq_false cO; clear cO; have H' := Aside0.mk H; clear H; obtain ⟨gs, gt, ew⟩ := Kd.R_slice ae.out; subst ew; have aY : 0 ≤ (af : Int) := oD; have q155 : af < (ab.length : Int) := oD; obtain ⟨ad155, e155, dE⟩ := Kd.at_int (Kd.R_reads' ae.out).2.2 af aY q155
              cases e155
              replace aY := eq_true aY; replace q155 := eq_true q155
              go_wp2
              (first | go_roundg k3 | ((try simp only [← hji21]); go_roundg k3))
              case measure => have := HJ4.out; have := HK2.out; have := HK3.out; omega
              case rel => exact ⟨(wrap64 (af + 1)), (ai), (ao), vv, (by first | exact H' | (have h_ := H'; (try simp only [← hji21] at h_); (try simp only [← hji21]); exact h_)), ⟨by have := HJ4.out; have := HK2.out; have := HK3.out; omega⟩, ⟨zR ae.out⟩, ⟨zR ah.out⟩, ⟨zB ad.out⟩, ⟨zB ac.out⟩, ⟨zS HB.out⟩⟩
            ·rw [if_neg dq] at H; exact absurd H (by simp)
           ·rw [if_neg cN] at H; have eh : decide (af < (ab.length : Int)) = false := decide_eq_false cN; clear cN; simp only [Option.some.injEq, Prod.mk.injEq] at H; obtain ⟨rfl, rfl, rfl, rfl, rfl⟩ := H; obtain ⟨gu, gv, ex⟩ := Kd.R_slice ae.out; subst ex; obtain ⟨gf, gg⟩ := nn aq; obtain ⟨eD, eE, eF, eG, eH, eI, eJ, eK⟩ := cz4 ac; obtain ⟨eL, eM, eN, eO, eP, eQ, eR, eS⟩ := cz4 ad; obtain ⟨ey, ez, eA⟩ := Kd.R_slice ah.out; subst eA
            go_wp2
            refine bodyPost_ret (results_ct rfl _ _ au 28 #[.int .i64 a0, .int .i64 a1, .int .i64 a2, .slice ey ai.length ez] (0, 0) _ rfl (xP4 ad.out) Try.underlying28 rfl (by kernel_rfl)) rfl ?_; exact ⟨_, by first | rfl | (simp [errW_none, errW_some] <;> rfl) | (simp only [← hji21]; first | rfl | (simp [errW_none, errW_some] <;> rfl)) | (simp [*, errW_none, errW_some] <;> rfl), rM (Aside0.mk (yF4 ah ad)) (fun _ hk => trivial), zS HB.out⟩
     ·rw [if_neg bx] at H; exact absurd H (by simp)
    ·rw [if_neg bw] at H; exact absurd H (by simp)

end Go.Proofs.Ytnflbjdmbaaokaa.MFnExactGenDegen
