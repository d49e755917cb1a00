-- Written by a program of this session, out of Lean's print of the translation. Not trusted: Lean checks it.
import Derived.Test.YtigmokdcanebeaaMFnMakex0
import Derived.Test.YtigmokdcanebeaaMFnMakex1
import Derived.Test.YtigmokdcanebeaaMFnMakex3
import Derived.Test.YtigmokdcanebeaaMFnMakex4
namespace Go.Proofs.Ytigmokdcanebeaa.MFnMake
open Go.RowKit Go.Proofs.YtigmokdcanebeaaW.PrintWords Go.Proofs.YtigmokdcanebeaaW.PrintLast Go.Proofs.YtigmokdcanebeaaW.PrintMore
attribute [local go_sem] max2_int min2_int max_two min_two max_three min_three max_four min_four   -- for this text's walks alone
set_option linter.unusedVariables false
set_option linter.unusedSimpArgs false

section
open Go.Proofs.Ytigmokdcanebeaa.Short2.T
abbrev spec_AutoMake.bl0 : Array Bool := #[f, f, f, f, f, f, f, f, f, f, f, f, f, f, f, f, f, f, f, f, f, f, f, f, f]
abbrev spec_AutoMake.bl1 : Array Bool := #[t, f, f, f, f, f, f, f, f, f, f, f, f, f, f, f, f, f, f, f, f, f, f, f, f]
abbrev spec_AutoMake.bl2 : Array Bool := #[t, f, t, f, f, f, f, f, f, f, f, f, f, f, f, f, f, f, f, f, f, f, f, f, f]
abbrev spec_AutoMake.bl3 : Array Bool := #[t, f, t, t, f, f, f, f, f, f, f, f, f, f, f, f, f, f, f, f, f, f, f, f, f]
abbrev spec_AutoMake.bl4 : Array Bool := #[t, f, t, t, t, f, f, f, f, f, f, f, f, f, f, f, f, f, f, f, f, f, f, f, f]
abbrev spec_AutoMake.bl5 : Array Bool := #[t, f, t, t, t, t, f, f, f, f, f, f, f, f, f, f, f, f, f, f, f, f, f, f, f]
abbrev spec_AutoMake.bl6 : Array Bool := #[t, f, t, t, t, t, t, f, f, f, f, f, f, f, f, f, f, f, f, f, f, f, f, f, f]
abbrev spec_AutoMake.bl7 : Array Bool := #[t, f, t, t, t, t, t, t, f, f, f, f, f, f, f, f, f, f, f, f, f, f, f, f, f]
abbrev spec_AutoMake.bl8 : Array Bool := #[t, f, t, t, t, t, t, t, t, f, f, f, f, f, f, f, f, f, f, f, f, f, f, f, f]
abbrev spec_AutoMake.bl9 : Array Bool := #[t, f, t, t, t, t, t, t, t, t, f, f, f, f, f, f, f, f, f, f, f, f, f, f, f]
abbrev spec_AutoMake.bl10 : Array Bool := #[t, f, t, t, t, t, t, t, t, t, t, f, f, f, f, f, f, f, f, f, f, f, f, f, f]
abbrev spec_AutoMake.bl11 : Array Bool := #[t, f, t, t, t, t, t, t, t, t, t, t, f, f, f, f, f, f, f, f, f, f, f, f, f]
abbrev spec_AutoMake.bl12 : Array Bool := #[t, f, t, t, t, t, t, t, t, t, t, t, t, f, f, f, f, f, f, f, f, f, f, f, f]
abbrev spec_AutoMake.bl13 : Array Bool := #[t, f, t, t, t, t, t, t, t, t, t, t, t, t, f, f, f, f, f, f, f, f, f, f, f]
abbrev spec_AutoMake.bl14 : Array Bool := #[t, f, t, t, t, t, t, t, t, t, t, t, t, t, t, f, f, f, f, f, f, f, f, f, f]
abbrev spec_AutoMake.bl15 : Array Bool := #[t, f, t, t, t, t, t, t, t, t, t, t, t, t, t, t, f, f, f, f, f, f, f, f, f]
abbrev spec_AutoMake.bl16 : Array Bool := #[t, f, t, t, t, t, t, t, t, t, t, t, t, t, t, t, t, f, f, f, f, f, f, f, f]
abbrev spec_AutoMake.bl17 : Array Bool := #[t, f, t, t, t, t, t, t, t, t, t, t, t, t, t, t, t, t, f, f, f, f, f, f, f]
abbrev spec_AutoMake.bl18 : Array Bool := #[t, t, t, t, t, t, t, t, t, t, t, t, t, t, t, t, t, t, f, f, f, f, f, f, f]
abbrev spec_AutoMake.bl19 : Array Bool := #[t, t, t, t, t, t, t, t, t, t, t, t, t, t, t, t, t, t, t, f, f, f, f, f, f]
abbrev spec_AutoMake.bl20 : Array Bool := #[t, t, t, t, t, t, t, t, t, t, t, t, t, t, t, t, t, t, t, t, f, f, f, f, f]
abbrev spec_AutoMake.bl21 : Array Bool := #[t, t, t, t, t, t, t, t, t, t, t, t, t, t, t, t, t, t, t, t, t, f, f, f, f]
abbrev spec_AutoMake.bl22 : Array Bool := #[t, t, t, t, t, t, t, t, t, t, t, t, t, t, t, t, t, t, t, t, t, t, f, f, f]
abbrev spec_AutoMake.bl23 : Array Bool := #[t, t, t, t, t, t, t, t, t, t, t, t, t, t, t, t, t, t, t, t, t, t, t, f, f]
abbrev spec_AutoMake.bl24 : Array Bool := #[t, t, t, t, t, t, t, t, t, t, t, t, t, t, t, t, t, t, t, t, t, t, t, t, f]
abbrev spec_AutoMake.bl25 : Array Bool := #[t, t, t, t, t, t, t, t, t, t, t, t, t, t, t, t, t, t, t, t, t, t, t, t, t]
end
/-! ### spec_AutoMake: function 8 -/
mutual
def spec_AutoMake.j0 : Nat → Int → Int → List (S33) → Bool → Int → Int → Int → Option (Int × Int × Int × (List (S33)) × Bool)
 | 0, _, _, _, _, _, _, _ => none
 | k + 1, x0, x1, x3, x28, x289000, x289001, x289002 => if x28 = true then (some (0, 0, 0, ([] : List (S33)), false)) else (if 0 ≤ (wrap64 ((wrap64 (x1 * x0)) * x1)) then (if (wrap64 ((wrap64 (x1 * x0)) * x1) : Int).toNat ≤ 35184372088832 then (spec_AutoMake.l0 k x0 x1 x3 (List.replicate (wrap64 ((wrap64 (x1 * x0)) * x1) : Int).toNat 0) 0 x289000 x289001 x289002) else (none)) else (none))
def spec_AutoMake.l0 : Nat → Int → Int → List (S33) → List Int → Int → Int → Int → Int → Option (Int × Int × Int × (List (S33)) × Bool)
 | 0, _, _, _, _, _, _, _, _ => none
 | k + 1, x0, x1, x3, x11, x12, x289000, x289001, x289002 => if x12 < (x3.length : Int) then (if 0 ≤ x12 then ((spec_l4State.f ((rd_T33 x3 x12).f0) x1).bind fun t295 => (if t295 = true then ((spec_l4State.f ((rd_T33 x3 x12).f2) x1).bind fun t296 => (if t296 = true then ((spec_l1In.f ((rd_T33 x3 x12).f1) 0 (wrap64 (x0 - 1))).bind fun t297 => (spec_AutoMake.j2 k x0 x1 x3 x11 x12 (!t297) x289000 x289001 x289002 ((rd_T33 x3 x12).f0) ((rd_T33 x3 x12).f1) ((rd_T33 x3 x12).f2) ((rd_T33 x3 x12).f3))) else (spec_AutoMake.j2 k x0 x1 x3 x11 x12 true x289000 x289001 x289002 ((rd_T33 x3 x12).f0) ((rd_T33 x3 x12).f1) ((rd_T33 x3 x12).f2) ((rd_T33 x3 x12).f3)))) else (spec_AutoMake.j2 k x0 x1 x3 x11 x12 true x289000 x289001 x289002 ((rd_T33 x3 x12).f0) ((rd_T33 x3 x12).f1) ((rd_T33 x3 x12).f2) ((rd_T33 x3 x12).f3)))) else (none)) else (spec_AutoMake.l1 k x0 x1 x11 0 x289000 x289001 x289002 ([] : List (S33)))
def spec_AutoMake.j2 : Nat → Int → Int → List (S33) → List Int → Int → Bool → Int → Int → Int → Int → Int → Int → Bool → Option (Int × Int × Int × (List (S33)) × Bool)
 | 0, _, _, _, _, _, _, _, _, _, _, _, _, _ => none
 | k + 1, x0, x1, x3, x11, x12, x65, x289000, x289001, x289002, x295000, x295001, x295002, x295003 => if x65 = true then (some (0, 0, 0, ([] : List (S33)), false)) else (if x295003 = true then (if 0 ≤ (wrap64 ((wrap64 ((wrap64 ((wrap64 (x295000 * x0)) + x295001)) * x1)) + x295002)) then (if (wrap64 ((wrap64 ((wrap64 ((wrap64 (x295000 * x0)) + x295001)) * x1)) + x295002)) < (x11.length : Int) then ((spec_l1Max.f (rd x11 (wrap64 ((wrap64 ((wrap64 ((wrap64 (x295000 * x0)) + x295001)) * x1)) + x295002))) 2).bind fun t299 => (spec_AutoMake.l0 k x0 x1 x3 (x11.set ((wrap64 ((wrap64 ((wrap64 ((wrap64 (x295000 * x0)) + x295001)) * x1)) + x295002)) : Int).toNat t299) (wrap64 (x12 + 1)) x289000 x289001 x289002)) else (none)) else (none)) else (if 0 ≤ (wrap64 ((wrap64 ((wrap64 ((wrap64 (x295000 * x0)) + x295001)) * x1)) + x295002)) then (if (wrap64 ((wrap64 ((wrap64 ((wrap64 (x295000 * x0)) + x295001)) * x1)) + x295002)) < (x11.length : Int) then ((spec_l1Max.f (rd x11 (wrap64 ((wrap64 ((wrap64 ((wrap64 (x295000 * x0)) + x295001)) * x1)) + x295002))) 1).bind fun t302 => (spec_AutoMake.l0 k x0 x1 x3 (x11.set ((wrap64 ((wrap64 ((wrap64 ((wrap64 (x295000 * x0)) + x295001)) * x1)) + x295002)) : Int).toNat t302) (wrap64 (x12 + 1)) x289000 x289001 x289002)) else (none)) else (none)))
def spec_AutoMake.l1 : Nat → Int → Int → List Int → Int → Int → Int → Int → List (S33) → Option (Int × Int × Int × (List (S33)) × Bool)
 | 0, _, _, _, _, _, _, _, _ => none
 | k + 1, x0, x1, x11, x16, x289000, x289001, x289002, x289003 => if x16 < (x11.length : Int) then (if 0 ≤ x16 then (if (rd x11 x16) > 0 then (if x1 = 0 then (none) else (if x0 = 0 then (none) else (if x289003.length < 4398046511104 then (spec_AutoMake.l1 k x0 x1 x11 (wrap64 (x16 + 1)) x289000 x289001 x289002 (x289003 ++ [(⟨wrap64 (Int.tdiv (wrap64 (Int.tdiv x16 x1)) x0), Int.tmod (wrap64 (Int.tdiv x16 x1)) x0, Int.tmod x16 x1, ((rd x11 x16) == 2)⟩ : S33)])) else (none)))) else (spec_AutoMake.l1 k x0 x1 x11 (wrap64 (x16 + 1)) x289000 x289001 x289002 x289003)) else (none)) else (some (x289000, x289001, x289002, x289003, true))
end
def spec_AutoMake.f (k : Nat) (a0 : Int) (a1 : Int) (a2 : Int) (l3 : List (S33)) : Option (Int × Int × Int × (List (S33)) × Bool) := (spec_AutoOk.f k a0 a1 a2 ([] : List (S33))).bind fun t289 => (if t289 = true then (spec_AutoMake.j0 k a0 a1 l3 (decide ((l3.length : Int) > 2000)) a0 a1 a2) else (spec_AutoMake.j0 k a0 a1 l3 true a0 a1 a2))
theorem spec_AutoMake.mono_l : ∀ k, (∀ y0 y1 y2 y3 y4 y5 y6, LeO (spec_AutoMake.j0 k y0 y1 y2 y3 y4 y5 y6) (spec_AutoMake.j0 (k + 1) y0 y1 y2 y3 y4 y5 y6)) ∧ (∀ y0 y1 y2 y3 y4 y5 y6 y7, LeO (spec_AutoMake.l0 k y0 y1 y2 y3 y4 y5 y6 y7) (spec_AutoMake.l0 (k + 1) y0 y1 y2 y3 y4 y5 y6 y7)) ∧ (∀ y0 y1 y2 y3 y4 y5 y6 y7 y8 y9 y10 y11 y12, LeO (spec_AutoMake.j2 k y0 y1 y2 y3 y4 y5 y6 y7 y8 y9 y10 y11 y12) (spec_AutoMake.j2 (k + 1) y0 y1 y2 y3 y4 y5 y6 y7 y8 y9 y10 y11 y12)) ∧ (∀ y0 y1 y2 y3 y4 y5 y6 y7, LeO (spec_AutoMake.l1 k y0 y1 y2 y3 y4 y5 y6 y7) (spec_AutoMake.l1 (k + 1) y0 y1 y2 y3 y4 y5 y6 y7))
 | 0 => ⟨fun _ _ _ _ _ _ _ r h => by simp [spec_AutoMake.j0] at h, fun _ _ _ _ _ _ _ _ r h => by simp [spec_AutoMake.l0] at h, fun _ _ _ _ _ _ _ _ _ _ _ _ _ r h => by simp [spec_AutoMake.j2] at h, fun _ _ _ _ _ _ _ _ r h => by simp [spec_AutoMake.l1] at h⟩
 | k + 1 => by
  obtain ⟨ih0, ih1, ih2, ih3⟩ := spec_AutoMake.mono_l k
  refine ⟨?_, ?_, ?_, ?_⟩
  ·intro y0 y1 y2 y3 y4 y5 y6
   unfold spec_AutoMake.j0
   repeat' first
   | (with_reducible exact ih0 _ _ _ _ _ _ _)
   | (with_reducible exact ih1 _ _ _ _ _ _ _ _)
   | (with_reducible exact ih2 _ _ _ _ _ _ _ _ _ _ _ _ _)
   | (with_reducible exact ih3 _ _ _ _ _ _ _ _)
   | (with_reducible exact spec_AutoOk.mono _ _ _ _ _)
   | (with_reducible exact LeO.refl _)
   | (with_reducible exact LeO.none _)
   | (with_reducible refine LeO.ite ?_ ?_)
   | (with_reducible refine LeO.bind ?_ (fun _ => ?_))
   | exact ih0 _ _ _ _ _ _ _
   | exact ih1 _ _ _ _ _ _ _ _
   | exact ih2 _ _ _ _ _ _ _ _ _ _ _ _ _
   | exact ih3 _ _ _ _ _ _ _ _
   | exact spec_AutoOk.mono _ _ _ _ _
   | exact LeO.none _
   | refine LeO.ite ?_ ?_
   | refine LeO.bind ?_ (fun _ => ?_)
  ·intro y0 y1 y2 y3 y4 y5 y6 y7
   unfold spec_AutoMake.l0
   repeat' first
   | (with_reducible exact ih0 _ _ _ _ _ _ _)
   | (with_reducible exact ih1 _ _ _ _ _ _ _ _)
   | (with_reducible exact ih2 _ _ _ _ _ _ _ _ _ _ _ _ _)
   | (with_reducible exact ih3 _ _ _ _ _ _ _ _)
   | (with_reducible exact spec_AutoOk.mono _ _ _ _ _)
   | (with_reducible exact LeO.refl _)
   | (with_reducible exact LeO.none _)
   | (with_reducible refine LeO.ite ?_ ?_)
   | (with_reducible refine LeO.bind ?_ (fun _ => ?_))
   | exact ih0 _ _ _ _ _ _ _
   | exact ih1 _ _ _ _ _ _ _ _
   | exact ih2 _ _ _ _ _ _ _ _ _ _ _ _ _
   | exact ih3 _ _ _ _ _ _ _ _
   | exact spec_AutoOk.mono _ _ _ _ _
   | exact LeO.none _
   | refine LeO.ite ?_ ?_
   | refine LeO.bind ?_ (fun _ => ?_)
  ·intro y0 y1 y2 y3 y4 y5 y6 y7 y8 y9 y10 y11 y12
   unfold spec_AutoMake.j2
   repeat' first
   | (with_reducible exact ih0 _ _ _ _ _ _ _)
   | (with_reducible exact ih1 _ _ _ _ _ _ _ _)
   | (with_reducible exact ih2 _ _ _ _ _ _ _ _ _ _ _ _ _)
   | (with_reducible exact ih3 _ _ _ _ _ _ _ _)
   | (with_reducible exact spec_AutoOk.mono _ _ _ _ _)
   | (with_reducible exact LeO.refl _)
   | (with_reducible exact LeO.none _)
   | (with_reducible refine LeO.ite ?_ ?_)
   | (with_reducible refine LeO.bind ?_ (fun _ => ?_))
   | exact ih0 _ _ _ _ _ _ _
   | exact ih1 _ _ _ _ _ _ _ _
   | exact ih2 _ _ _ _ _ _ _ _ _ _ _ _ _
   | exact ih3 _ _ _ _ _ _ _ _
   | exact spec_AutoOk.mono _ _ _ _ _
   | exact LeO.none _
   | refine LeO.ite ?_ ?_
   | refine LeO.bind ?_ (fun _ => ?_)
  ·intro y0 y1 y2 y3 y4 y5 y6 y7
   unfold spec_AutoMake.l1
   repeat' first
   | (with_reducible exact ih0 _ _ _ _ _ _ _)
   | (with_reducible exact ih1 _ _ _ _ _ _ _ _)
   | (with_reducible exact ih2 _ _ _ _ _ _ _ _ _ _ _ _ _)
   | (with_reducible exact ih3 _ _ _ _ _ _ _ _)
   | (with_reducible exact spec_AutoOk.mono _ _ _ _ _)
   | (with_reducible exact LeO.refl _)
   | (with_reducible exact LeO.none _)
   | (with_reducible refine LeO.ite ?_ ?_)
   | (with_reducible refine LeO.bind ?_ (fun _ => ?_))
   | exact ih0 _ _ _ _ _ _ _
   | exact ih1 _ _ _ _ _ _ _ _
   | exact ih2 _ _ _ _ _ _ _ _ _ _ _ _ _
   | exact ih3 _ _ _ _ _ _ _ _
   | exact spec_AutoOk.mono _ _ _ _ _
   | exact LeO.none _
   | refine LeO.ite ?_ ?_
   | refine LeO.bind ?_ (fun _ => ?_)
theorem spec_AutoMake.mono : ∀ a0 a1 a2 a3 k, LeO (spec_AutoMake.f k a0 a1 a2 a3) (spec_AutoMake.f (k + 1) a0 a1 a2 a3) := by
 intro a0 a1 a2 a3 k
 obtain ⟨ih0, ih1, ih2, ih3⟩ := spec_AutoMake.mono_l k
 unfold spec_AutoMake.f
 repeat' first
   | (with_reducible exact ih0 _ _ _ _ _ _ _)
   | (with_reducible exact ih1 _ _ _ _ _ _ _ _)
   | (with_reducible exact ih2 _ _ _ _ _ _ _ _ _ _ _ _ _)
   | (with_reducible exact ih3 _ _ _ _ _ _ _ _)
   | (with_reducible exact spec_AutoOk.mono _ _ _ _ _)
   | (with_reducible exact LeO.refl _)
   | (with_reducible exact LeO.none _)
   | (with_reducible refine LeO.ite ?_ ?_)
   | (with_reducible refine LeO.bind ?_ (fun _ => ?_))
   | exact ih0 _ _ _ _ _ _ _
   | exact ih1 _ _ _ _ _ _ _ _
   | exact ih2 _ _ _ _ _ _ _ _ _ _ _ _ _
   | exact ih3 _ _ _ _ _ _ _ _
   | exact spec_AutoOk.mono _ _ _ _ _
   | exact LeO.none _
   | refine LeO.ite ?_ ?_
   | refine LeO.bind ?_ (fun _ => ?_)
def spec_AutoMake.T20 : Bool × List (List Nat × List Nat) := (true, [([], []), ([0], [0]), ([], []), ([], []), ([2, 3], [2, 3]), ([], []), ([4, 5], [4, 5]), ([], []), ([], []), ([7, 8], [7, 8]), ([], []), ([9, 10], [9, 10]), ([], []), ([], []), ([12, 13], [12, 13]), ([], []), ([], []), ([15, 16], [15, 16]), ([17], [17]), ([18], [18]), ([6, 11, 14, 19], [6, 11, 14, 19]), ([20], [20]), ([1, 21], [1, 21]), ([0, 1, 2, 3, 4, 5, 6, 7, 8, 9, 10, 11, 12, 13, 14, 15, 16, 17, 18, 19, 20, 21, 22], []), ([23, 22, 22, 0, 1, 2, 3, 4, 5, 6, 7, 8, 9, 10, 11, 12, 13, 14, 15, 16, 17, 18, 19, 20, 21, 22], [22, 23])])
def spec_AutoMake.B20 : List Nat := [0, 1, 0, 0, 12, 0, 60, 0, 0, 384, 0, 1920, 0, 0, 12288, 0, 0, 98304, 229376, 491520, 1048572, 2097148, 4194303, 8388607, 16777215]
theorem spec_AutoMake.tab20 : rtab .any (opsOf Try.f8 20) = spec_AutoMake.T20 := by kernel_rfl
theorem spec_AutoMake.bits20 : waitsOk spec_AutoMake.T20.2 spec_AutoMake.B20 = true := by kernel_rfl
open Go.Proofs.Ytigmokdcanebeaa.Short2 Go.Proofs.Ytigmokdcanebeaa.Short6 in
set_option maxHeartbeats 8000000 in
set_option maxRecDepth 100000 in
theorem spec_AutoMake.calls (k : Nat) (a0 : Int) (a1 : Int) (a2 : Int) (A3 : Option Addr) (c3 : Nat) (l3 : List (S33)) (r1 : Int) (r2 : Int) (r3 : Int) (r4 : List (S33)) (r5 : Bool) (w : World) (hr3 : Kd.C k33 w A3 l3.length l3) (hc3 : l3.length ≤ c3) (h : spec_AutoMake.f k a0 a1 a2 l3 = some (r1, r2, r3, r4, r5)) :
  Calls Try.prog 8 #[.int .i64 a0, .int .i64 a1, .int .i64 a2, .slice A3 l3.length c3] w fun e w' => ∃ v3_ : Value, e = .returned (.tuple #[.agg #[.int .i64 r1, .int .i64 r2, .int .i64 r3, v3_], .bool r5]) ∧ Kd.R k33 33 w' w.heap.size (fun _ => True) v3_ r4 ∧ Below w.heap.size w w' := by
 have hu28 := Try.underlying28; have hu33 := Try.underlying33; have HR3 := Aside0.mk hr3; have HC3 := Aside0.mk hc3; clear hr3 hc3; have HB := Aside0.mk (Below.refl w.heap.size w); have H : ((spec_AutoOk.f k a0 a1 a2 ([] : List (S33))).bind fun cS => (if cS = true then (spec_AutoMake.j0 k a0 a1 l3 (decide ((l3.length : Int) > 2000)) a0 a1 a2) else (spec_AutoMake.j0 k a0 a1 l3 true a0 a1 a2))) = some (r1, r2, r3, r4, r5) := h; clear h; have HC5 := Aside0.mk H; clear H
 go_enter Try.func8, Try.ntmps8
 go_upto_region 2 with (first | ((with_reducible refine gate_dst (N := 8) rfl ?_); (try (refine gate_guard (by rfl) ?_; dsimp only)); refine box_event ?hg (N := 8) ?hd (cs := #[.int .i64 0, .int .i64 0, .int .i64 0, .slice none 0 0]) (t := 28) ?hr ?_; (case hd => rfl); (case hg => rfl); (case hr => first | (go_simp; done) | (go_simp; rfl)); intro ao hg w6 hbox hb; have ad := Aside0.mk (hbox); have fk := xG HB hg; have cU := xG HB hg; replace HB := xS HB hb; clear hb hbox hg) | ((with_reducible refine gate_dst (N := 10) rfl ?_); (try (refine gate_guard (by rfl) ?_; dsimp only)); refine box_event ?hg (N := 10) ?hd (cs := #[.int .i64 0, .int .i64 0, .int .i64 0, .slice none 0 0]) (t := 28) ?hr ?_; (case hd => rfl); (case hg => rfl); (case hr => first | (go_simp; done) | (go_simp; rfl)); intro al hg w7 hbox hb; have ac := Aside0.mk (hbox); have fl := xG HB hg; have cV := xG HB hg; replace HB := xS HB hb; have ap := xN ad hg; have aq := xM ad hg; replace ad := xB ad hb; clear hb hbox hg; have gd := aq.out; have ge := ap.out; obtain ⟨bc, bd, be, bf, bg, bh, bi, bj⟩ := cz4 ac))
 (try simp only [Act.put, q3])
 go_cut [28] (fun eU wc => ∃ (kq : Nat) (bI : Bool), eU = .bool bI ∧ Aside0 (spec_AutoMake.j0 kq a0 a1 l3 bI a0 a1 a2 = some (r1, r2, r3, r4, r5)) ∧ Aside0 (kq ≤ k) ∧ Aside0 (wc.heap[ao]? = some (.cells #[.int .i64 0, .int .i64 0, .int .i64 0, (.slice none 0 0)] 28 (0, 0))) ∧ Aside0 (wc.heap[al]? = some (.cells #[.int .i64 a0, .int .i64 a1, .int .i64 a2, (.slice none 0 0)] 28 (0, 0))) ∧ Aside0 (Below w.heap.size w wc))
 case first =>
  have H := HC5.out; clear HC5; replace H := Option.bind_eq_some_iff.mp H; obtain ⟨cS, dJ, H⟩ := H; replace H : (if cS = true then (spec_AutoMake.j0 k a0 a1 l3 (decide ((l3.length : Int) > 2000)) a0 a1 a2) else (spec_AutoMake.j0 k a0 a1 l3 true a0 a1 a2)) = some (r1, r2, r3, r4, r5) := H; have es := Aside0.mk dJ; clear dJ
  by_cases bz : cS = true
  ·subst bz
   have H1 : (spec_AutoMake.j0 k a0 a1 l3 (decide ((l3.length : Int) > 2000)) a0 a1 a2) = some (r1, r2, r3, r4, r5) := by rw [if_pos rfl] at H; exact H
   clear H; have H := H1; clear H1; have H' := Aside0.mk H; clear H; have fm := aq.out; have fn := ap.out; obtain ⟨aH, aI, aJ, aK, aM, aN, aQ, aR⟩ := cz4 ac
   go_wp2_with (first | ((with_reducible refine gate_callee (f := 26) rfl ?_); refine gl_ (some 22) Try.func26 #[.agg #[.int .i64 a0, .int .i64 a1, .int .i64 a2, .slice none 0 0]] ?_; (refine (spec_AutoOk.calls k a0 a1 a2 none 0 ([] : List (S33)) true _ ?side1 ?side2 es.out).mono ?_); (case side1 => exact Kd.C_nil _ _); (case side2 => exact Nat.le_refl _); rintro e gs ⟨rfl, hb⟩; refine ⟨_, rfl, ?_⟩; replace ad := xB ad hb; replace ac := Aside0.mk (blk_below (g := al) (o := .cells #[.int .i64 a0, .int .i64 a1, .int .i64 a2, .slice none 0 0] 28 (0, 0)) (xP4 ac.out) hb); replace HB := xS HB hb; (try clear hb); (try clear hb2); (try clear hk); (try clear hi)))
   go_meet
   case rel => exact ⟨_, (decide ((l3.length : Int) > 2000)), (by first | rfl | (simp; done) | (simp [*]; done) | (rw [Int.tmod_eq_emod_of_nonneg (Int.natCast_nonneg _)]; done)), H', ⟨by first | omega | exact Nat.le_refl _⟩, ⟨zB ad.out⟩, ⟨zB ac.out⟩, ⟨zS HB.out⟩⟩
  ·replace bz := Bool.eq_false_iff.mpr bz; subst bz
   have H1 : (spec_AutoMake.j0 k a0 a1 l3 true a0 a1 a2) = some (r1, r2, r3, r4, r5) := by rw [if_neg (show ¬ (false = true) by decide)] at H; exact H
   clear H; have H := H1; clear H1; have H' := Aside0.mk H; clear H; have fo := aq.out; have fp := ap.out; obtain ⟨aT, aU, aV, aW, aX, aY, aZ, ba⟩ := cz4 ac
   go_wp2_with (first | ((with_reducible refine gate_callee (f := 26) rfl ?_); refine gl_ (some 22) Try.func26 #[.agg #[.int .i64 a0, .int .i64 a1, .int .i64 a2, .slice none 0 0]] ?_; (refine (spec_AutoOk.calls k a0 a1 a2 none 0 ([] : List (S33)) false _ ?side1 ?side2 es.out).mono ?_); (case side1 => exact Kd.C_nil _ _); (case side2 => exact Nat.le_refl _); rintro e gt ⟨rfl, hb⟩; refine ⟨_, rfl, ?_⟩; replace ad := xB ad hb; replace ac := Aside0.mk (blk_below (g := al) (o := .cells #[.int .i64 a0, .int .i64 a1, .int .i64 a2, .slice none 0 0] 28 (0, 0)) (xP4 ac.out) hb); replace HB := xS HB hb; (try clear hb); (try clear hb2); (try clear hk); (try clear hi)))
   go_meet
   case rel => exact ⟨_, (true), (by first | rfl | (simp; done) | (simp [*]; done) | (rw [Int.tmod_eq_emod_of_nonneg (Int.natCast_nonneg _)]; done)), H', ⟨by first | omega | exact Nat.le_refl _⟩, ⟨zB ad.out⟩, ⟨zB ac.out⟩, ⟨zS HB.out⟩⟩
 case rest =>
  clear HC5
  try clear c1
  try clear c2
  try clear p2
  try clear c3
  try clear c8
  try clear bz
  try clear dK
  try clear dL
  try clear aH aI aJ aK
  try clear aT aU aV aW
  try clear bc bd be bf
  try clear aM
  try clear aN
  try clear aQ
  try clear aR
  try clear aX
  try clear aY
  try clear aZ
  try clear ba
  try clear bg
  try clear bh
  try clear bi
  try clear bj
  obtain ⟨kq, bI, rfl, HA, HJ4, ad, ac, HB⟩ := hcut
  cases kq with
  | zero => exact absurd HA.out (by simp [spec_AutoMake.j0])
  | succ kj4 =>
   have H := HA.out; clear HA; simp only [spec_AutoMake.j0] at H
   by_cases bJ : bI = true
   ·subst bJ
    have H1 : (some (0, 0, 0, ([] : List (S33)), false)) = some (r1, r2, r3, r4, r5) := by rw [if_pos rfl] at H; exact H
    clear H; have H := H1; clear H1; simp only [Option.some.injEq, Prod.mk.injEq] at H; obtain ⟨rfl, rfl, rfl, rfl, rfl⟩ := H; have fq := ap.out; have fr := aq.out; obtain ⟨bp, bq, br, bs, bt, bu, bv, bw⟩ := cz4 ad
    go_wp2
    refine bodyPost_ret (results_ct rfl _ _ ao 28 #[.int .i64 0, .int .i64 0, .int .i64 0, .slice none 0 0] (0, 0) _ rfl (xP4 ad.out) Try.underlying28 rfl (by kernel_rfl)) rfl ?_; exact ⟨_, by first | rfl | (simp [errW_none, errW_some] <;> rfl) | (simp [*, errW_none, errW_some] <;> rfl), by first | exact Kd.R_nil _ _ _ _ _ | exact Kd.N_nil _ _ _ _ _ | exact Kd.V_nil _ _ _ _ _ | exact Kd.Q_nil _ _ _ _ _ | exact Kd.S_nil _ _ _ _ _, by repeat (first | (with_reducible first | exact HB.out | apply below_alloc | apply pw_below_drewN | apply below_drew1 | refine below_set ?_ cU.out | refine below_set ?_ cV.out) | exact HB.out)⟩
   ·replace bJ := Bool.eq_false_iff.mpr bJ; subst bJ
    have H1 : (if 0 ≤ (wrap64 ((wrap64 (a1 * a0)) * a1)) then (if (wrap64 ((wrap64 (a1 * a0)) * a1) : Int).toNat ≤ 35184372088832 then (spec_AutoMake.l0 kj4 a0 a1 l3 (List.replicate (wrap64 ((wrap64 (a1 * a0)) * a1) : Int).toNat 0) 0 a0 a1 a2) else (none)) else (none)) = some (r1, r2, r3, r4, r5) := by rw [if_neg (show ¬ (false = true) by decide)] at H; exact H
    clear H; have H := H1; clear H1; obtain ⟨ji21, hji21⟩ : ∃ j_ : Int, (wrap64 ((wrap64 (a1 * a0)) * a1)) = j_ := ⟨_, rfl⟩
    replace H : (if 0 ≤ (ji21) then (if (ji21 : Int).toNat ≤ 35184372088832 then (spec_AutoMake.l0 kj4 a0 a1 l3 (List.replicate (ji21 : Int).toNat 0) 0 a0 a1 a2) else (none)) else (none)) = some (r1, r2, r3, r4, r5) := by first | (rw [hji21] at H; exact H) | (simp only [hji21] at H ⊢; exact H)
    have hji21w : (IntKind.i64.wrap ((wrap64 (a1 * a0)) * a1)) = ji21 := (i64_w _).trans hji21
    by_cases bA : 0 ≤ (ji21)
    ·rw [if_pos bA] at H; have cW := eq_true bA; have cX : decide (0 ≤ (ji21)) = true := decide_eq_true bA; clear bA
     by_cases bB : (ji21 : Int).toNat ≤ 35184372088832
     ·rw [if_pos bB] at H; have cY := eq_true bB; have cZ : decide ((ji21 : Int).toNat ≤ 35184372088832) = true := decide_eq_true bB; clear bB; obtain ⟨dM, bk⟩ : ∃ y_ : List Int, y_ = (List.replicate (ji21 : Int).toNat 0) := ⟨_, rfl⟩
      replace H : (spec_AutoMake.l0 kj4 a0 a1 l3 dM 0 a0 a1 a2) = some (r1, r2, r3, r4, r5) := by first | (rw [bk]; with_reducible exact H) | (have H2_ := (Option.bind_some _ _).symm.trans H; rw [bk]; with_reducible exact H2_) | (have H2_ := (Option.bind_some _ _).symm.trans H; with_reducible exact H2_) | with_reducible exact H | (rw [bk]; exact H) | exact H
      have dr := Aside0.mk bk; clear bk; have H' := Aside0.mk H; clear H
      go_wp2_with (first | ((with_reducible refine gate_dst (N := 35) rfl ?_); (try (refine gate_guard (by rfl) ?_; dsimp only)); refine Kd.R_make (Kd.int .i64) _ 3 rfl (N := 35) rfl 49 _ _ rfl ji21 rfl rfl Try.underlying49 (.int .i64 0) 8 info3 rfl (by decide) (by omega) 0 (ok := fun _ => True) (okp := fun _ => True) rfl (fun _ hk => hk) trivial (of_decide_eq_true (by first | (with_reducible assumption) | assumption)) (Nat.le_trans (Nat.mul_le_mul_right _ (of_decide_eq_true (by first | (with_reducible assumption) | assumption) : ji21.toNat ≤ 35184372088832)) (by omega)) (Below.refl _ _) (Nat.le_refl _) ?_; intro dk gu ho25 hb hg_ hnew_; clear hg_ hnew_; (first | rw [← dr.out] at ho25 | (simp only [Int.reduceToNat] at ho25; rw [← dr.out] at ho25)); have eh := Aside0.mk (Kd.R_lower ho25 (below_size (zS HB.out))); replace ad := xB ad hb; replace ac := xB ac hb; replace HB := xS HB hb; clear hb ho25))
      go_loopg [12] kj4 (fun kq eV w' => ∃ (ab : List Int) (aa : Int) (ah : Int) (ai : Int) (aj : Int), eV = .int .i64 aa ∧ Aside0 (spec_AutoMake.l0 kq a0 a1 l3 ab aa a0 a1 a2 = some (r1, r2, r3, r4, r5)) ∧ Aside0 (kq ≤ kj4) ∧ Aside0 (Kd.R (Kd.int .i64) 3 w' w.heap.size (fun _ => True) dk ab) ∧ Aside0 (w'.heap[ao]? = some (.cells #[.int .i64 ah, .int .i64 ai, .int .i64 aj, (.slice none 0 0)] 28 (0, 0))) ∧ Aside0 (w'.heap[al]? = some (.cells #[.int .i64 a0, .int .i64 a1, .int .i64 a2, (.slice none 0 0)] 28 (0, 0))) ∧ Aside0 (Below w.heap.size w w'))
      case atStart => exact ⟨(dM), (0), (0), (0), (0), (by first | rfl | (simp; done) | (simp [*]; done) | (rw [Int.tmod_eq_emod_of_nonneg (Int.natCast_nonneg _)]; done)), H', ⟨Nat.le_refl _⟩, ⟨zR eh.out⟩, ⟨zB ad.out⟩, ⟨zB ac.out⟩, ⟨zS HB.out⟩⟩
      case round =>
       clear H'
       try clear c1
       try clear c2
       try clear p2
       try clear c3
       try clear p6
       try clear c8
       try clear bz
       try clear dK
       try clear dL
       try clear bJ
       try clear et
       try clear bA
       try clear cW
       try clear cX
       try clear bB
       try clear cY
       try clear cZ
       try clear aH aI aJ aK
       try clear aT aU aV aW
       try clear bp bq br bs
       try clear bc bd be bf
       try clear aM
       try clear aN
       try clear aQ
       try clear aR
       try clear aX
       try clear aY
       try clear aZ
       try clear ba
       try clear bt
       try clear bu
       try clear bv
       try clear bw
       try clear bg
       try clear bh
       try clear bi
       try clear bj
       try clear p2
       obtain ⟨ab, aa, ah, ai, aj, rfl, HA, HK2, ae, ad, ac, HB⟩ := hrel
       cases gk with
       | zero => exact absurd HA.out (by simp [spec_AutoMake.l0])
       | succ k2 =>
        have H := HA.out; clear HA; simp only [spec_AutoMake.l0] at H
        by_cases bC : aa < (l3.length : Int)
        ·rw [if_pos bC] at H; have da : decide (aa < (l3.length : Int)) = true := decide_eq_true bC; clear bC
         by_cases bN : 0 ≤ aa
         ·rw [if_pos bN] at H; have dt : decide (0 ≤ aa) = true := decide_eq_true bN; clear bN; have HC28 := Aside0.mk H; clear H; have bK : 0 ≤ (aa : Int) := of_decide_eq_true (by first | (with_reducible assumption) | assumption); have q293 : aa < (l3.length : Int) := of_decide_eq_true (by first | (with_reducible assumption) | assumption); obtain ⟨ad293, e293, az, aA, aC, aD⟩ := at_T33 HR3.out aa bK q293
          cases e293
          replace az := (HB.out.cell (World.block_lt_of_cell? w _ az)).trans az; replace aA := (HB.out.cell (World.block_lt_of_cell? w _ aA)).trans aA; replace aC := (HB.out.cell (World.block_lt_of_cell? w _ aC)).trans aC; replace aD := (HB.out.cell (World.block_lt_of_cell? w _ aD)).trans aD; replace bK := eq_true bK; replace q293 := eq_true q293
          go_upto_region 9 with (first | ((with_reducible refine gate_dst (N := 13) rfl ?_); (try (refine gate_guard (by rfl) ?_; dsimp only)); refine box_event ?hg (N := 13) ?hd (cs := #[.int .i64 0, .int .i64 0, .int .i64 0, .bool false]) (t := 33) ?hr ?_; (case hd => rfl); (case hg => rfl); (case hr => first | (go_simp; done) | (go_simp; rfl)); intro am hg gv hbox hb; replace ae := xR ae hb; have ag := Aside0.mk (hbox); have fs := xG HB hg; have ei := xG HB hg; replace HB := xS HB hb; have ar := xN ad hg; have au := xM ad hg; replace ad := xB ad hb; have aw := xN ac hg; have ax := xM ac hg; replace ac := xB ac hb; clear hb hbox hg; have ft := au.out; have fu := ar.out; have fv := ax.out; have fw := aw.out; obtain ⟨bO, bP, bQ, bR, bS, bT, bU, bV⟩ := cz4 ag))
          (try simp only [Act.put, q3])
          go_cut [65] (fun eW wc => ∃ (kq : Nat) (bl : Bool), eW = .bool bl ∧ Aside0 (spec_AutoMake.j2 kq a0 a1 l3 ab aa bl a0 a1 a2 ((rd_T33 l3 aa).f0) ((rd_T33 l3 aa).f1) ((rd_T33 l3 aa).f2) ((rd_T33 l3 aa).f3) = some (r1, r2, r3, r4, r5)) ∧ Aside0 (kq ≤ k2) ∧ Aside0 (Kd.R (Kd.int .i64) 3 wc w.heap.size (fun _ => True) dk ab) ∧ Aside0 (wc.heap[ao]? = some (.cells #[.int .i64 ah, .int .i64 ai, .int .i64 aj, (.slice none 0 0)] 28 (0, 0))) ∧ Aside0 (wc.heap[al]? = some (.cells #[.int .i64 a0, .int .i64 a1, .int .i64 a2, (.slice none 0 0)] 28 (0, 0))) ∧ Aside0 (wc.heap[am]? = some (.cells #[.int .i64 ((rd_T33 l3 aa).f0), .int .i64 ((rd_T33 l3 aa).f1), .int .i64 ((rd_T33 l3 aa).f2), .bool ((rd_T33 l3 aa).f3)] 33 (0, 0))) ∧ Aside0 (Below w.heap.size w wc))
          case first =>
           have H := HC28.out; clear HC28; replace H := Option.bind_eq_some_iff.mp H; obtain ⟨dN, dO, H⟩ := H; replace H : (if dN = true then ((spec_l4State.f ((rd_T33 l3 aa).f2) a1).bind fun bx => (if bx = true then ((spec_l1In.f ((rd_T33 l3 aa).f1) 0 (wrap64 (a0 - 1))).bind fun ay => (spec_AutoMake.j2 k2 a0 a1 l3 ab aa (!ay) a0 a1 a2 ((rd_T33 l3 aa).f0) ((rd_T33 l3 aa).f1) ((rd_T33 l3 aa).f2) ((rd_T33 l3 aa).f3))) else (spec_AutoMake.j2 k2 a0 a1 l3 ab aa true a0 a1 a2 ((rd_T33 l3 aa).f0) ((rd_T33 l3 aa).f1) ((rd_T33 l3 aa).f2) ((rd_T33 l3 aa).f3)))) else (spec_AutoMake.j2 k2 a0 a1 l3 ab aa true a0 a1 a2 ((rd_T33 l3 aa).f0) ((rd_T33 l3 aa).f1) ((rd_T33 l3 aa).f2) ((rd_T33 l3 aa).f3))) = some (r1, r2, r3, r4, r5) := H; have dP := Aside0.mk dO; clear dO
           by_cases bW : dN = true
           ·subst bW
            have H1 : ((spec_l4State.f ((rd_T33 l3 aa).f2) a1).bind fun bx => (if bx = true then ((spec_l1In.f ((rd_T33 l3 aa).f1) 0 (wrap64 (a0 - 1))).bind fun ay => (spec_AutoMake.j2 k2 a0 a1 l3 ab aa (!ay) a0 a1 a2 ((rd_T33 l3 aa).f0) ((rd_T33 l3 aa).f1) ((rd_T33 l3 aa).f2) ((rd_T33 l3 aa).f3))) else (spec_AutoMake.j2 k2 a0 a1 l3 ab aa true a0 a1 a2 ((rd_T33 l3 aa).f0) ((rd_T33 l3 aa).f1) ((rd_T33 l3 aa).f2) ((rd_T33 l3 aa).f3)))) = some (r1, r2, r3, r4, r5) := by rw [if_pos rfl] at H; exact H
            clear H; have H := H1; clear H1; replace H := Option.bind_eq_some_iff.mp H; obtain ⟨bx, dQ, H⟩ := H; replace H : (if bx = true then ((spec_l1In.f ((rd_T33 l3 aa).f1) 0 (wrap64 (a0 - 1))).bind fun ay => (spec_AutoMake.j2 k2 a0 a1 l3 ab aa (!ay) a0 a1 a2 ((rd_T33 l3 aa).f0) ((rd_T33 l3 aa).f1) ((rd_T33 l3 aa).f2) ((rd_T33 l3 aa).f3))) else (spec_AutoMake.j2 k2 a0 a1 l3 ab aa true a0 a1 a2 ((rd_T33 l3 aa).f0) ((rd_T33 l3 aa).f1) ((rd_T33 l3 aa).f2) ((rd_T33 l3 aa).f3))) = some (r1, r2, r3, r4, r5) := H; have eu := Aside0.mk dQ; clear dQ
            by_cases bX : bx = true
            ·subst bX
             have H1 : ((spec_l1In.f ((rd_T33 l3 aa).f1) 0 (wrap64 (a0 - 1))).bind fun ay => (spec_AutoMake.j2 k2 a0 a1 l3 ab aa (!ay) a0 a1 a2 ((rd_T33 l3 aa).f0) ((rd_T33 l3 aa).f1) ((rd_T33 l3 aa).f2) ((rd_T33 l3 aa).f3))) = some (r1, r2, r3, r4, r5) := by rw [if_pos rfl] at H; exact H
             clear H; have H := H1; clear H1; replace H := Option.bind_eq_some_iff.mp H; obtain ⟨ay, dR, H⟩ := H; replace H : (spec_AutoMake.j2 k2 a0 a1 l3 ab aa (!ay) a0 a1 a2 ((rd_T33 l3 aa).f0) ((rd_T33 l3 aa).f1) ((rd_T33 l3 aa).f2) ((rd_T33 l3 aa).f3)) = some (r1, r2, r3, r4, r5) := H; have eX := Aside0.mk dR; clear dR; have H' := Aside0.mk H; clear H; have fx := au.out; have fy := ar.out; have fz := ax.out; have fA := aw.out; obtain ⟨bY, bZ, ca, cb, cc, cd, ce, cf⟩ := cz4 ag
             go_wp2_with (first | ((with_reducible refine gate_callee (f := 27) rfl ?_); refine gl_ (some 49) Try.func27 #[.int .i64 ((rd_T33 l3 aa).f0), .int .i64 a1] ?_; (with_reducible refine (spec_l4State.calls ((rd_T33 l3 aa).f0) a1 true _ dP.out).mono ?_); rintro e w' ⟨rfl, ⟨nd, rfl⟩⟩; refine ⟨_, rfl, ?_⟩) | (go_at_call 27; (with_reducible refine (spec_l4State.calls ((rd_T33 l3 aa).f2) a1 true _ eu.out).mono ?_); rintro e w' ⟨rfl, ⟨nd, rfl⟩⟩) | (go_at_call 28; (with_reducible refine (spec_l1In.calls ((rd_T33 l3 aa).f1) 0 (wrap64 (a0 - 1)) ay _ eX.out).mono ?_); rintro e w' ⟨rfl, ⟨nd, rfl⟩⟩))
             (first | go_meet | ((try simp only [← hji21]); go_meet))
             case rel => exact ⟨_, (!ay), (by first | rfl | (simp; done) | (simp [*]; done) | (rw [Int.tmod_eq_emod_of_nonneg (Int.natCast_nonneg _)]; done)), (by first | exact H' | (have h_ := H'; (try simp only [← hji21] at h_); (try simp only [← hji21]); exact h_)), ⟨by have := HJ4.out; have := HK2.out; first | omega | exact Nat.le_refl _⟩, ⟨by (with_reducible repeat (first | apply Kd.R_alloc | apply Kd.R_drewN | apply Kd.R_drew)); exact Kd.R_mono (Kd.R_far (p := ⟨am, 3, none⟩) (Kd.R_far (p := ⟨am, 2, none⟩) (Kd.R_far (p := ⟨am, 1, none⟩) (Kd.R_far (p := ⟨am, 0, none⟩) (Kd.R_types ae.out ag.out (by decide)) (fun _ hk => hk.2) (.int .i64 ((rd_T33 l3 aa).f0))) (fun _ hk => hk.2) (.int .i64 ((rd_T33 l3 aa).f1))) (fun _ hk => hk.2) (.int .i64 ((rd_T33 l3 aa).f2))) (fun _ hk => hk.2) (.bool ((rd_T33 l3 aa).f3))) (fun _ hk => trivial)⟩, ⟨zB ad.out⟩, ⟨zB ac.out⟩, ⟨by (with_reducible repeat (first | refine blk_drewN ?_ _ | refine blk_drew ?_ | refine blk_alloc ?_ _)); refine blk_put (cs := #[.int .i64 ((rd_T33 l3 aa).f0), .int .i64 ((rd_T33 l3 aa).f1), .int .i64 ((rd_T33 l3 aa).f2), .bool false]) ?_ 3 _ rfl; (with_reducible repeat (first | refine blk_drewN ?_ _ | refine blk_drew ?_ | refine blk_alloc ?_ _)); refine blk_put (cs := #[.int .i64 ((rd_T33 l3 aa).f0), .int .i64 ((rd_T33 l3 aa).f1), .int .i64 0, .bool false]) ?_ 2 _ rfl; (with_reducible repeat (first | refine blk_drewN ?_ _ | refine blk_drew ?_ | refine blk_alloc ?_ _)); refine blk_put (cs := #[.int .i64 ((rd_T33 l3 aa).f0), .int .i64 0, .int .i64 0, .bool false]) ?_ 1 _ rfl; (with_reducible repeat (first | refine blk_drewN ?_ _ | refine blk_drew ?_ | refine blk_alloc ?_ _)); refine blk_put (cs := #[.int .i64 0, .int .i64 0, .int .i64 0, .bool false]) ?_ 0 _ rfl; (with_reducible repeat (first | refine blk_drewN ?_ _ | refine blk_drew ?_ | refine blk_alloc ?_ _)); exact ag.out⟩, ⟨zS HB.out⟩⟩
            ·replace bX := Bool.eq_false_iff.mpr bX; subst bX
             have H1 : (spec_AutoMake.j2 k2 a0 a1 l3 ab aa true a0 a1 a2 ((rd_T33 l3 aa).f0) ((rd_T33 l3 aa).f1) ((rd_T33 l3 aa).f2) ((rd_T33 l3 aa).f3)) = some (r1, r2, r3, r4, r5) := by rw [if_neg (show ¬ (false = true) by decide)] at H; exact H
             clear H; have H := H1; clear H1; have H' := Aside0.mk H; clear H; have fB := au.out; have fC := ar.out; have fD := ax.out; have fE := aw.out; obtain ⟨cg, ch, ci, cj, ck, cl, cm, cn⟩ := cz4 ag
             go_wp2_with (first | ((with_reducible refine gate_callee (f := 27) rfl ?_); refine gl_ (some 49) Try.func27 #[.int .i64 ((rd_T33 l3 aa).f0), .int .i64 a1] ?_; (with_reducible refine (spec_l4State.calls ((rd_T33 l3 aa).f0) a1 true _ dP.out).mono ?_); rintro e w' ⟨rfl, ⟨nd, rfl⟩⟩; refine ⟨_, rfl, ?_⟩) | (go_at_call 27; (with_reducible refine (spec_l4State.calls ((rd_T33 l3 aa).f2) a1 false _ eu.out).mono ?_); rintro e w' ⟨rfl, ⟨nd, rfl⟩⟩))
             (first | go_meet | ((try simp only [← hji21]); go_meet))
             case rel => exact ⟨_, (true), (by first | rfl | (simp; done) | (simp [*]; done) | (rw [Int.tmod_eq_emod_of_nonneg (Int.natCast_nonneg _)]; done)), (by first | exact H' | (have h_ := H'; (try simp only [← hji21] at h_); (try simp only [← hji21]); exact h_)), ⟨by have := HJ4.out; have := HK2.out; first | omega | exact Nat.le_refl _⟩, ⟨by (with_reducible repeat (first | apply Kd.R_alloc | apply Kd.R_drewN | apply Kd.R_drew)); exact Kd.R_mono (Kd.R_far (p := ⟨am, 3, none⟩) (Kd.R_far (p := ⟨am, 2, none⟩) (Kd.R_far (p := ⟨am, 1, none⟩) (Kd.R_far (p := ⟨am, 0, none⟩) (Kd.R_types ae.out ag.out (by decide)) (fun _ hk => hk.2) (.int .i64 ((rd_T33 l3 aa).f0))) (fun _ hk => hk.2) (.int .i64 ((rd_T33 l3 aa).f1))) (fun _ hk => hk.2) (.int .i64 ((rd_T33 l3 aa).f2))) (fun _ hk => hk.2) (.bool ((rd_T33 l3 aa).f3))) (fun _ hk => trivial)⟩, ⟨zB ad.out⟩, ⟨zB ac.out⟩, ⟨by (with_reducible repeat (first | refine blk_drewN ?_ _ | refine blk_drew ?_ | refine blk_alloc ?_ _)); refine blk_put (cs := #[.int .i64 ((rd_T33 l3 aa).f0), .int .i64 ((rd_T33 l3 aa).f1), .int .i64 ((rd_T33 l3 aa).f2), .bool false]) ?_ 3 _ rfl; (with_reducible repeat (first | refine blk_drewN ?_ _ | refine blk_drew ?_ | refine blk_alloc ?_ _)); refine blk_put (cs := #[.int .i64 ((rd_T33 l3 aa).f0), .int .i64 ((rd_T33 l3 aa).f1), .int .i64 0, .bool false]) ?_ 2 _ rfl; (with_reducible repeat (first | refine blk_drewN ?_ _ | refine blk_drew ?_ | refine blk_alloc ?_ _)); refine blk_put (cs := #[.int .i64 ((rd_T33 l3 aa).f0), .int .i64 0, .int .i64 0, .bool false]) ?_ 1 _ rfl; (with_reducible repeat (first | refine blk_drewN ?_ _ | refine blk_drew ?_ | refine blk_alloc ?_ _)); refine blk_put (cs := #[.int .i64 0, .int .i64 0, .int .i64 0, .bool false]) ?_ 0 _ rfl; (with_reducible repeat (first | refine blk_drewN ?_ _ | refine blk_drew ?_ | refine blk_alloc ?_ _)); exact ag.out⟩, ⟨zS HB.out⟩⟩
           ·replace bW := Bool.eq_false_iff.mpr bW; subst bW
            have H1 : (spec_AutoMake.j2 k2 a0 a1 l3 ab aa true a0 a1 a2 ((rd_T33 l3 aa).f0) ((rd_T33 l3 aa).f1) ((rd_T33 l3 aa).f2) ((rd_T33 l3 aa).f3)) = some (r1, r2, r3, r4, r5) := by rw [if_neg (show ¬ (false = true) by decide)] at H; exact H
            clear H; have H := H1; clear H1; have H' := Aside0.mk H; clear H; have fF := au.out; have fG := ar.out; have fH := ax.out; have fI := aw.out; obtain ⟨co, cp, cq, cr, ct, cu, cv, cw⟩ := cz4 ag
            go_wp2_with (first | ((with_reducible refine gate_callee (f := 27) rfl ?_); refine gl_ (some 49) Try.func27 #[.int .i64 ((rd_T33 l3 aa).f0), .int .i64 a1] ?_; (with_reducible refine (spec_l4State.calls ((rd_T33 l3 aa).f0) a1 false _ dP.out).mono ?_); rintro e w' ⟨rfl, ⟨nd, rfl⟩⟩; refine ⟨_, rfl, ?_⟩))
            (first | go_meet | ((try simp only [← hji21]); go_meet))
            case rel => exact ⟨_, (true), (by first | rfl | (simp; done) | (simp [*]; done) | (rw [Int.tmod_eq_emod_of_nonneg (Int.natCast_nonneg _)]; done)), (by first | exact H' | (have h_ := H'; (try simp only [← hji21] at h_); (try simp only [← hji21]); exact h_)), ⟨by have := HJ4.out; have := HK2.out; first | omega | exact Nat.le_refl _⟩, ⟨by (with_reducible repeat (first | apply Kd.R_alloc | apply Kd.R_drewN | apply Kd.R_drew)); exact Kd.R_mono (Kd.R_far (p := ⟨am, 3, none⟩) (Kd.R_far (p := ⟨am, 2, none⟩) (Kd.R_far (p := ⟨am, 1, none⟩) (Kd.R_far (p := ⟨am, 0, none⟩) (Kd.R_types ae.out ag.out (by decide)) (fun _ hk => hk.2) (.int .i64 ((rd_T33 l3 aa).f0))) (fun _ hk => hk.2) (.int .i64 ((rd_T33 l3 aa).f1))) (fun _ hk => hk.2) (.int .i64 ((rd_T33 l3 aa).f2))) (fun _ hk => hk.2) (.bool ((rd_T33 l3 aa).f3))) (fun _ hk => trivial)⟩, ⟨zB ad.out⟩, ⟨zB ac.out⟩, ⟨by (with_reducible repeat (first | refine blk_drewN ?_ _ | refine blk_drew ?_ | refine blk_alloc ?_ _)); refine blk_put (cs := #[.int .i64 ((rd_T33 l3 aa).f0), .int .i64 ((rd_T33 l3 aa).f1), .int .i64 ((rd_T33 l3 aa).f2), .bool false]) ?_ 3 _ rfl; (with_reducible repeat (first | refine blk_drewN ?_ _ | refine blk_drew ?_ | refine blk_alloc ?_ _)); refine blk_put (cs := #[.int .i64 ((rd_T33 l3 aa).f0), .int .i64 ((rd_T33 l3 aa).f1), .int .i64 0, .bool false]) ?_ 2 _ rfl; (with_reducible repeat (first | refine blk_drewN ?_ _ | refine blk_drew ?_ | refine blk_alloc ?_ _)); refine blk_put (cs := #[.int .i64 ((rd_T33 l3 aa).f0), .int .i64 0, .int .i64 0, .bool false]) ?_ 1 _ rfl; (with_reducible repeat (first | refine blk_drewN ?_ _ | refine blk_drew ?_ | refine blk_alloc ?_ _)); refine blk_put (cs := #[.int .i64 0, .int .i64 0, .int .i64 0, .bool false]) ?_ 0 _ rfl; (with_reducible repeat (first | refine blk_drewN ?_ _ | refine blk_drew ?_ | refine blk_alloc ?_ _)); exact ag.out⟩, ⟨zS HB.out⟩⟩
          case rest =>
           clear HC28
           try clear c1
           try clear c2
           try clear p2
           try clear q2
           try clear hx2
           try clear c3
           try clear c4
           try clear p6
           try clear c8
           try clear bz
           try clear dK
           try clear dL
           try clear bJ
           try clear et
           try clear bA
           try clear cW
           try clear cX
           try clear bB
           try clear cY
           try clear cZ
           try clear bC
           try clear da
           try clear bN
           try clear dt
           try clear ev
           try clear q29
           try clear hx29
           try clear eY
           try clear eZ
           try clear bW
           try clear bX
           try clear fa
           try clear fb
           try clear fc
           try clear fd
           try clear fe
           try clear ff
           try clear aH aI aJ aK
           try clear aT aU aV aW
           try clear bp bq br bs
           try clear bO bP bQ bR
           try clear bY bZ ca cb
           try clear cg ch ci cj
           try clear co cp cq cr
           try clear bc bd be bf
           try clear aM
           try clear aN
           try clear aQ
           try clear aR
           try clear aX
           try clear aY
           try clear aZ
           try clear ba
           try clear bt
           try clear bu
           try clear bv
           try clear bw
           try clear bS
           try clear bT
           try clear bU
           try clear bV
           try clear cc
           try clear cd
           try clear ce
           try clear cf
           try clear ck
           try clear cl
           try clear cm
           try clear cn
           try clear ct
           try clear cu
           try clear cv
           try clear cw
           try clear bg
           try clear bh
           try clear bi
           try clear bj
           try clear az
           try clear aA
           try clear aC
           try clear aD
           try clear p2
           try clear bK
           try clear p6
           try clear q293
           obtain ⟨kq, bl, rfl, HA, HJ27, ae, ad, ac, ag, HB⟩ := hcut
           cases kq with
           | zero => exact absurd HA.out (by simp [spec_AutoMake.j2])
           | succ kj27 =>
            have H := HA.out; clear HA; simp only [spec_AutoMake.j2] at H
            by_cases dd : bl = true
            ·subst dd
             have H1 : (some (0, 0, 0, ([] : List (S33)), false)) = some (r1, r2, r3, r4, r5) := by rw [if_pos rfl] at H; exact H
             clear H; have H := H1; clear H1; simp only [Option.some.injEq, Prod.mk.injEq] at H; obtain ⟨rfl, rfl, rfl, rfl, rfl⟩ := H; have fJ := ap.out; have fK := aq.out; have fL := ar.out; have fM := au.out; obtain ⟨dA, dB, dC, dD, dE, dF, dG, dH⟩ := cz4 ad
             go_wp2
             refine bodyPost_ret (results_ct rfl _ _ ao 28 #[.int .i64 0, .int .i64 0, .int .i64 0, .slice none 0 0] (0, 0) _ rfl (xP4 ad.out) Try.underlying28 rfl (by kernel_rfl)) rfl ?_; exact ⟨_, by first | rfl | (simp [errW_none, errW_some] <;> rfl) | (simp only [← hji21]; first | rfl | (simp [errW_none, errW_some] <;> rfl)) | (simp [*, errW_none, errW_some] <;> rfl), by first | exact Kd.R_nil _ _ _ _ _ | exact Kd.N_nil _ _ _ _ _ | exact Kd.V_nil _ _ _ _ _ | exact Kd.Q_nil _ _ _ _ _ | exact Kd.S_nil _ _ _ _ _, by repeat (first | (with_reducible first | exact HB.out | apply below_alloc | apply pw_below_drewN | apply below_drew1 | refine below_set ?_ cU.out | refine below_set ?_ cV.out | refine below_set ?_ ei.out) | exact HB.out)⟩
            ·replace dd := Bool.eq_false_iff.mpr dd; subst dd
             have H1 : (if ((rd_T33 l3 aa).f3) = true then (if 0 ≤ (wrap64 ((wrap64 ((wrap64 ((wrap64 (((rd_T33 l3 aa).f0) * a0)) + ((rd_T33 l3 aa).f1))) * a1)) + ((rd_T33 l3 aa).f2))) then (if (wrap64 ((wrap64 ((wrap64 ((wrap64 (((rd_T33 l3 aa).f0) * a0)) + ((rd_T33 l3 aa).f1))) * a1)) + ((rd_T33 l3 aa).f2))) < (ab.length : Int) then ((spec_l1Max.f (rd ab (wrap64 ((wrap64 ((wrap64 ((wrap64 (((rd_T33 l3 aa).f0) * a0)) + ((rd_T33 l3 aa).f1))) * a1)) + ((rd_T33 l3 aa).f2)))) 2).bind fun aE => (spec_AutoMake.l0 kj27 a0 a1 l3 (ab.set ((wrap64 ((wrap64 ((wrap64 ((wrap64 (((rd_T33 l3 aa).f0) * a0)) + ((rd_T33 l3 aa).f1))) * a1)) + ((rd_T33 l3 aa).f2))) : Int).toNat aE) (wrap64 (aa + 1)) a0 a1 a2)) else (none)) else (none)) else (if 0 ≤ (wrap64 ((wrap64 ((wrap64 ((wrap64 (((rd_T33 l3 aa).f0) * a0)) + ((rd_T33 l3 aa).f1))) * a1)) + ((rd_T33 l3 aa).f2))) then (if (wrap64 ((wrap64 ((wrap64 ((wrap64 (((rd_T33 l3 aa).f0) * a0)) + ((rd_T33 l3 aa).f1))) * a1)) + ((rd_T33 l3 aa).f2))) < (ab.length : Int) then ((spec_l1Max.f (rd ab (wrap64 ((wrap64 ((wrap64 ((wrap64 (((rd_T33 l3 aa).f0) * a0)) + ((rd_T33 l3 aa).f1))) * a1)) + ((rd_T33 l3 aa).f2)))) 1).bind fun aG => (spec_AutoMake.l0 kj27 a0 a1 l3 (ab.set ((wrap64 ((wrap64 ((wrap64 ((wrap64 (((rd_T33 l3 aa).f0) * a0)) + ((rd_T33 l3 aa).f1))) * a1)) + ((rd_T33 l3 aa).f2))) : Int).toNat aG) (wrap64 (aa + 1)) a0 a1 a2)) else (none)) else (none))) = some (r1, r2, r3, r4, r5) := by rw [if_neg (show ¬ (false = true) by decide)] at H; exact H
             clear H; have H := H1; clear H1
             by_cases bL : ((rd_T33 l3 aa).f3) = true
             ·rw [if_pos bL] at H; have du : ((rd_T33 l3 aa).f3) = true := bL; clear bL; obtain ⟨ji52, hji52⟩ : ∃ j_ : Int, (wrap64 ((wrap64 ((wrap64 ((wrap64 (((rd_T33 l3 aa).f0) * a0)) + ((rd_T33 l3 aa).f1))) * a1)) + ((rd_T33 l3 aa).f2))) = j_ := ⟨_, rfl⟩
              replace H : (if 0 ≤ (ji52) then (if (ji52) < (ab.length : Int) then ((spec_l1Max.f (rd ab (ji52)) 2).bind fun aE => (spec_AutoMake.l0 kj27 a0 a1 l3 (ab.set ((ji52) : Int).toNat aE) (wrap64 (aa + 1)) a0 a1 a2)) else (none)) else (none)) = some (r1, r2, r3, r4, r5) := by first | (rw [hji52] at H; exact H) | (simp only [hji52] at H ⊢; exact H)
              have hji52w : (IntKind.i64.wrap ((wrap64 ((wrap64 ((wrap64 (((rd_T33 l3 aa).f0) * a0)) + ((rd_T33 l3 aa).f1))) * a1)) + ((rd_T33 l3 aa).f2))) = ji52 := (i64_w _).trans hji52
              by_cases de : 0 ≤ (ji52)
              ·rw [if_pos de] at H; have ej : decide (0 ≤ (ji52)) = true := decide_eq_true de; clear de
               by_cases df : (ji52) < (ab.length : Int)
               ·rw [if_pos df] at H; have ek : decide ((ji52) < (ab.length : Int)) = true := decide_eq_true df; clear df; replace H := Option.bind_eq_some_iff.mp H; obtain ⟨aE, dS, H⟩ := H; replace H : (spec_AutoMake.l0 kj27 a0 a1 l3 (ab.set ((ji52) : Int).toNat aE) (wrap64 (aa + 1)) a0 a1 a2) = some (r1, r2, r3, r4, r5) := H; have fg := Aside0.mk dS; clear dS; obtain ⟨dl, bm⟩ : ∃ y_ : List Int, y_ = (ab.set ((ji52) : Int).toNat aE) := ⟨_, rfl⟩
                replace H : (spec_AutoMake.l0 kj27 a0 a1 l3 dl (wrap64 (aa + 1)) a0 a1 a2) = some (r1, r2, r3, r4, r5) := by first | (rw [bm]; with_reducible exact H) | (have H2_ := (Option.bind_some _ _).symm.trans H; rw [bm]; with_reducible exact H2_) | (have H2_ := (Option.bind_some _ _).symm.trans H; with_reducible exact H2_) | with_reducible exact H | (rw [bm]; exact H) | exact H
                have el := Aside0.mk bm; clear bm; have H' := Aside0.mk H; clear H; have fN := au.out; have fO := ar.out; have fP := ax.out; have fQ := aw.out; obtain ⟨cx, cy, cz, cA, cB, cC, cD, cE⟩ := cz4 ag; obtain ⟨gf, dT, ew⟩ := Kd.R_slice ae.out; subst ew; have db : 0 ≤ ((ji52) : Int) := of_decide_eq_true (by first | (with_reducible assumption) | assumption); have q298 : (ji52) < (ab.length : Int) := of_decide_eq_true (by first | (with_reducible assumption) | assumption); obtain ⟨ad298, e298, cF⟩ := Kd.at_int (Kd.R_reads' ae.out).2.2 (ji52) db q298
                cases e298
                replace db := eq_true db; replace q298 := eq_true q298
                go_wp2_with (first | ((with_reducible refine gate_callee (f := 23) rfl ?_); refine goesL_ (some 88) rfl rfl Try.func23 (by kernel_rfl) rfl #[.int .i64 (rd ab (ji52)), .int .i64 2] rfl (by (try simp only [m3]); first | done | (simp only [hji52]; rfl) | rfl | (simp only [d2]; rfl)) ?_; (with_reducible refine (spec_l1Max.calls (rd ab (ji52)) 2 aE _ fg.out).mono ?_); rintro e w' ⟨rfl, ⟨nd, rfl⟩⟩; refine ⟨_, rfl, ?_⟩; (try (rw [drewN_self wc]; generalize hq_ : World.drewN wc _ = wc; have bD : Aside0 (Kd.R (Kd.int .i64) 3 wc w.heap.size (fun k_ => True) (.slice (some ad298) ab.length dT) ab) := ⟨by rw [← hq_]; exact (zR ae.out)⟩; have bE : Aside0 (wc.heap[ao]? = some (.cells #[.int .i64 ah, .int .i64 ai, .int .i64 aj, .slice none 0 0] 28 (0, 0))) := ⟨by rw [← hq_]; exact (zB ad.out)⟩; have bF : Aside0 (wc.heap[al]? = some (.cells #[.int .i64 a0, .int .i64 a1, .int .i64 a2, .slice none 0 0] 28 (0, 0))) := ⟨by rw [← hq_]; exact (zB ac.out)⟩; have bG : Aside0 (wc.heap[am]? = some (.cells #[.int .i64 ((rd_T33 l3 aa).f0), .int .i64 ((rd_T33 l3 aa).f1), .int .i64 ((rd_T33 l3 aa).f2), .bool ((rd_T33 l3 aa).f3)] 33 (0, 0))) := ⟨by rw [← hq_]; exact (zB ag.out)⟩; have bH : Aside0 (Below w.heap.size w wc) := ⟨by rw [← hq_]; exact (zS HB.out)⟩; clear ae ad ac ag HB hq_; have ae := bD; have ad := bE; have ac := bF; have ag := bG; have HB := bH; clear bD bE bF bG bH; obtain ⟨cx, cy, cz, cA, cB, cC, cD, cE⟩ := cz4 ag)); have dg : 0 ≤ ((ji52) : Int) := of_decide_eq_true (by first | (with_reducible assumption) | assumption); have q56 : ((ji52) : Int) < ((ab.length : Int) : Int) := of_decide_eq_true (by first | (with_reducible assumption) | assumption); obtain ⟨go56, gg, dU, dV, gl56, cl56, HG56⟩ := Kd.R_form ae.out (by omega); (first | cases dU | (injection dU with ea_ en_ ec_; (first | subst ea_ | (injection ea_ with ea_; subst ea_)); subst ec_; clear en_)); have GB56 := Aside0.mk dV; have GG56 := Aside0.mk HG56; clear dV gl56 HG56; (first | simp only [add_plain] at cF | skip); obtain ⟨dW, hf56_0⟩ := Kd.R_celln 0 ae.out ((ji52) : Int) dg q56; replace dg := eq_true dg; replace q56 := eq_true q56; obtain ⟨hy61_, hz61_⟩ := Kd.R_celln 0 ae.out ((ji52) : Int) (of_decide_eq_true (by first | (with_reducible assumption) | assumption)) (of_decide_eq_true (by first | (with_reducible assumption) | assumption)); have HP61 := Kd.R_putg ae.out ((ji52) : Int) aE) | ((with_reducible refine gate_store (t := 3) (p := 89) rfl ?_); refine store_event (t := 3) (p := 89) (v := ?vo_w62) (w1 := (wc.setCell ⟨go56, ((ji52) : Int).toNat, none⟩ (.int .i64 aE))) ?hg ?ho ?hn ?hr ?_; (case ho => rfl); (case hg => rfl); (case hn => rfl); (case hr => first | (go_simp; done) | (go_simp; rfl)); intro dX hw; have hg : wc.grownBy dX (some go56) := (by rw [hw]; exact HP61.2); have hp_ : Kd.R (Kd.int .i64) 3 dX w.heap.size (fun _ => True) (.slice (some ⟨go56, 0, none⟩) ab.length dT) dl := (by rw [hw, el.out]; exact HP61.1); clear HP61; replace ad := Aside0.mk (blk_grown (g := ao) (o := .cells #[.int .i64 ah, .int .i64 ai, .int .i64 aj, .slice none 0 0] 28 (0, 0)) (zB ad.out) hg (Kd.R_ne ae.out ad.out (by decide))); replace ac := Aside0.mk (blk_grown (g := al) (o := .cells #[.int .i64 a0, .int .i64 a1, .int .i64 a2, .slice none 0 0] 28 (0, 0)) (zB ac.out) hg (Kd.R_ne ae.out ac.out (by decide))); replace ag := Aside0.mk (blk_grown (g := am) (o := .cells #[.int .i64 ((rd_T33 l3 aa).f0), .int .i64 ((rd_T33 l3 aa).f1), .int .i64 ((rd_T33 l3 aa).f2), .bool ((rd_T33 l3 aa).f3)] 33 (0, 0)) (zB ag.out) hg (Kd.R_ne ae.out ag.out (by decide))); replace ae := Aside0.mk (hp_); replace HB := Aside0.mk ((by rw [hw]; exact below_set (HB.out) GB56.out : Below w.heap.size w dX)); clear hg hw hp_))
                (first | go_roundg kj27 | ((try simp only [← hji21]); (try simp only [← hji52]); go_roundg kj27))
                case measure => have := HJ4.out; have := HK2.out; have := HJ27.out; omega
                case rel => exact ⟨(dl), (wrap64 (aa + 1)), (ah), (ai), (aj), (by first | rfl | (simp; done) | (simp [*]; done) | (rw [Int.tmod_eq_emod_of_nonneg (Int.natCast_nonneg _)]; done)), (by first | exact H' | (have h_ := H'; (try simp only [← hji21] at h_); (try simp only [← hji21]); (try simp only [← hji52] at h_); (try simp only [← hji52]); exact h_)), ⟨by have := HJ4.out; have := HK2.out; have := HJ27.out; omega⟩, ⟨zR ae.out⟩, ⟨zB ad.out⟩, ⟨zB ac.out⟩, ⟨zS HB.out⟩⟩
               ·rw [if_neg df] at H; exact absurd H (by simp)
              ·rw [if_neg de] at H; exact absurd H (by simp)
             ·rw [if_neg bL] at H
              have du : ((rd_T33 l3 aa).f3) = false := by simpa using bL
              clear bL; obtain ⟨ji63, hji63⟩ : ∃ j_ : Int, (wrap64 ((wrap64 ((wrap64 ((wrap64 (((rd_T33 l3 aa).f0) * a0)) + ((rd_T33 l3 aa).f1))) * a1)) + ((rd_T33 l3 aa).f2))) = j_ := ⟨_, rfl⟩
              replace H : (if 0 ≤ (ji63) then (if (ji63) < (ab.length : Int) then ((spec_l1Max.f (rd ab (ji63)) 1).bind fun aG => (spec_AutoMake.l0 kj27 a0 a1 l3 (ab.set ((ji63) : Int).toNat aG) (wrap64 (aa + 1)) a0 a1 a2)) else (none)) else (none)) = some (r1, r2, r3, r4, r5) := by first | (rw [hji63] at H; exact H) | (simp only [hji63] at H ⊢; exact H)
              have hji63w : (IntKind.i64.wrap ((wrap64 ((wrap64 ((wrap64 (((rd_T33 l3 aa).f0) * a0)) + ((rd_T33 l3 aa).f1))) * a1)) + ((rd_T33 l3 aa).f2))) = ji63 := (i64_w _).trans hji63
              by_cases dh : 0 ≤ (ji63)
              ·rw [if_pos dh] at H; have em : decide (0 ≤ (ji63)) = true := decide_eq_true dh; clear dh
               by_cases di : (ji63) < (ab.length : Int)
               ·rw [if_pos di] at H; have en : decide ((ji63) < (ab.length : Int)) = true := decide_eq_true di; clear di; replace H := Option.bind_eq_some_iff.mp H; obtain ⟨aG, dY, H⟩ := H; replace H : (spec_AutoMake.l0 kj27 a0 a1 l3 (ab.set ((ji63) : Int).toNat aG) (wrap64 (aa + 1)) a0 a1 a2) = some (r1, r2, r3, r4, r5) := H; have fh := Aside0.mk dY; clear dY; obtain ⟨dm, bn⟩ : ∃ y_ : List Int, y_ = (ab.set ((ji63) : Int).toNat aG) := ⟨_, rfl⟩
                replace H : (spec_AutoMake.l0 kj27 a0 a1 l3 dm (wrap64 (aa + 1)) a0 a1 a2) = some (r1, r2, r3, r4, r5) := by first | (rw [bn]; with_reducible exact H) | (have H2_ := (Option.bind_some _ _).symm.trans H; rw [bn]; with_reducible exact H2_) | (have H2_ := (Option.bind_some _ _).symm.trans H; with_reducible exact H2_) | with_reducible exact H | (rw [bn]; exact H) | exact H
                have eo := Aside0.mk bn; clear bn; have H' := Aside0.mk H; clear H; have fR := au.out; have fS := ar.out; have fT := ax.out; have fU := aw.out; obtain ⟨cG, cH, cI, cJ, cK, cL, cM, cN⟩ := cz4 ag; obtain ⟨gh, dZ, ex⟩ := Kd.R_slice ae.out; subst ex; have dc : 0 ≤ ((ji63) : Int) := of_decide_eq_true (by first | (with_reducible assumption) | assumption); have q301 : (ji63) < (ab.length : Int) := of_decide_eq_true (by first | (with_reducible assumption) | assumption); obtain ⟨ad301, e301, cO⟩ := Kd.at_int (Kd.R_reads' ae.out).2.2 (ji63) dc q301
                cases e301
                replace dc := eq_true dc; replace q301 := eq_true q301
                go_wp2_with (first | ((with_reducible refine gate_callee (f := 23) rfl ?_); refine goesL_ (some 88) rfl rfl Try.func23 (by kernel_rfl) rfl #[.int .i64 (rd ab (ji63)), .int .i64 1] rfl (by (try simp only [m3]); first | done | (simp only [hji63]; rfl) | rfl | (simp only [d2]; rfl)) ?_; (with_reducible refine (spec_l1Max.calls (rd ab (ji63)) 1 aG _ fh.out).mono ?_); rintro e w' ⟨rfl, ⟨nd, rfl⟩⟩; refine ⟨_, rfl, ?_⟩; (try (rw [drewN_self wc]; generalize hq_ : World.drewN wc _ = wc; have bD : Aside0 (Kd.R (Kd.int .i64) 3 wc w.heap.size (fun k_ => True) (.slice (some ad301) ab.length dZ) ab) := ⟨by rw [← hq_]; exact (zR ae.out)⟩; have bE : Aside0 (wc.heap[ao]? = some (.cells #[.int .i64 ah, .int .i64 ai, .int .i64 aj, .slice none 0 0] 28 (0, 0))) := ⟨by rw [← hq_]; exact (zB ad.out)⟩; have bF : Aside0 (wc.heap[al]? = some (.cells #[.int .i64 a0, .int .i64 a1, .int .i64 a2, .slice none 0 0] 28 (0, 0))) := ⟨by rw [← hq_]; exact (zB ac.out)⟩; have bG : Aside0 (wc.heap[am]? = some (.cells #[.int .i64 ((rd_T33 l3 aa).f0), .int .i64 ((rd_T33 l3 aa).f1), .int .i64 ((rd_T33 l3 aa).f2), .bool ((rd_T33 l3 aa).f3)] 33 (0, 0))) := ⟨by rw [← hq_]; exact (zB ag.out)⟩; have bH : Aside0 (Below w.heap.size w wc) := ⟨by rw [← hq_]; exact (zS HB.out)⟩; clear ae ad ac ag HB hq_; have ae := bD; have ad := bE; have ac := bF; have ag := bG; have HB := bH; clear bD bE bF bG bH; obtain ⟨cG, cH, cI, cJ, cK, cL, cM, cN⟩ := cz4 ag)); have dj : 0 ≤ ((ji63) : Int) := of_decide_eq_true (by first | (with_reducible assumption) | assumption); have q67 : ((ji63) : Int) < ((ab.length : Int) : Int) := of_decide_eq_true (by first | (with_reducible assumption) | assumption); obtain ⟨go67, gi, ea, eb, gl67, cl67, HG67⟩ := Kd.R_form ae.out (by omega); (first | cases ea | (injection ea with ea_ en_ ec_; (first | subst ea_ | (injection ea_ with ea_; subst ea_)); subst ec_; clear en_)); have GB67 := Aside0.mk eb; have GG67 := Aside0.mk HG67; clear eb gl67 HG67; (first | simp only [add_plain] at cO | skip); obtain ⟨ec, hf67_0⟩ := Kd.R_celln 0 ae.out ((ji63) : Int) dj q67; replace dj := eq_true dj; replace q67 := eq_true q67; obtain ⟨hy72_, hz72_⟩ := Kd.R_celln 0 ae.out ((ji63) : Int) (of_decide_eq_true (by first | (with_reducible assumption) | assumption)) (of_decide_eq_true (by first | (with_reducible assumption) | assumption)); have HP72 := Kd.R_putg ae.out ((ji63) : Int) aG) | ((with_reducible refine gate_store (t := 3) (p := 89) rfl ?_); refine store_event (t := 3) (p := 89) (v := ?vo_w73) (w1 := (wc.setCell ⟨go67, ((ji63) : Int).toNat, none⟩ (.int .i64 aG))) ?hg ?ho ?hn ?hr ?_; (case ho => rfl); (case hg => rfl); (case hn => rfl); (case hr => first | (go_simp; done) | (go_simp; rfl)); intro ed hw; have hg : wc.grownBy ed (some go67) := (by rw [hw]; exact HP72.2); have hp_ : Kd.R (Kd.int .i64) 3 ed w.heap.size (fun _ => True) (.slice (some ⟨go67, 0, none⟩) ab.length dZ) dm := (by rw [hw, eo.out]; exact HP72.1); clear HP72; replace ad := Aside0.mk (blk_grown (g := ao) (o := .cells #[.int .i64 ah, .int .i64 ai, .int .i64 aj, .slice none 0 0] 28 (0, 0)) (zB ad.out) hg (Kd.R_ne ae.out ad.out (by decide))); replace ac := Aside0.mk (blk_grown (g := al) (o := .cells #[.int .i64 a0, .int .i64 a1, .int .i64 a2, .slice none 0 0] 28 (0, 0)) (zB ac.out) hg (Kd.R_ne ae.out ac.out (by decide))); replace ag := Aside0.mk (blk_grown (g := am) (o := .cells #[.int .i64 ((rd_T33 l3 aa).f0), .int .i64 ((rd_T33 l3 aa).f1), .int .i64 ((rd_T33 l3 aa).f2), .bool ((rd_T33 l3 aa).f3)] 33 (0, 0)) (zB ag.out) hg (Kd.R_ne ae.out ag.out (by decide))); replace ae := Aside0.mk (hp_); replace HB := Aside0.mk ((by rw [hw]; exact below_set (HB.out) GB67.out : Below w.heap.size w ed)); clear hg hw hp_))
                (first | go_roundg kj27 | ((try simp only [← hji21]); (try simp only [← hji63]); go_roundg kj27))
                case measure => have := HJ4.out; have := HK2.out; have := HJ27.out; omega
                case rel => exact ⟨(dm), (wrap64 (aa + 1)), (ah), (ai), (aj), (by first | rfl | (simp; done) | (simp [*]; done) | (rw [Int.tmod_eq_emod_of_nonneg (Int.natCast_nonneg _)]; done)), (by first | exact H' | (have h_ := H'; (try simp only [← hji21] at h_); (try simp only [← hji21]); (try simp only [← hji63] at h_); (try simp only [← hji63]); exact h_)), ⟨by have := HJ4.out; have := HK2.out; have := HJ27.out; omega⟩, ⟨zR ae.out⟩, ⟨zB ad.out⟩, ⟨zB ac.out⟩, ⟨zS HB.out⟩⟩
               ·rw [if_neg di] at H; exact absurd H (by simp)
              ·rw [if_neg dh] at H; exact absurd H (by simp)
         ·rw [if_neg bN] at H; exact absurd H (by simp)
        ·rw [if_neg bC] at H; have da : decide (aa < (l3.length : Int)) = false := decide_eq_false bC; clear bC; have H' := Aside0.mk H; clear H
         go_wp2
         go_loopg [16] k2 (fun kq fi w' => ∃ (af : Int) (an : List (S33)) (av : Value), fi = .int .i64 af ∧ Aside0 (spec_AutoMake.l1 kq a0 a1 ab af a0 a1 a2 an = some (r1, r2, r3, r4, r5)) ∧ Aside0 (kq ≤ k2) ∧ Aside0 (Kd.R (Kd.int .i64) 3 w' w.heap.size (fun _ => True) dk ab) ∧ Aside0 (Kd.R k33 33 w' w.heap.size (fun _ => True) av an) ∧ Aside0 (w'.heap[ao]? = some (.cells #[.int .i64 ah, .int .i64 ai, .int .i64 aj, (.slice none 0 0)] 28 (0, 0))) ∧ Aside0 (w'.heap[al]? = some (.cells #[.int .i64 a0, .int .i64 a1, .int .i64 a2, av] 28 (0, 0))) ∧ Aside0 (Below w.heap.size w w'))
         case atStart => exact ⟨(0), (([] : List (S33))), (.slice none 0 0), (by first | rfl | (simp; done) | (simp [*]; done) | (rw [Int.tmod_eq_emod_of_nonneg (Int.natCast_nonneg _)]; done)), H', ⟨Nat.le_refl _⟩, ⟨zR ae.out⟩, ⟨by first | exact Kd.R_nil _ _ _ _ _ | exact Kd.N_nil _ _ _ _ _ | exact Kd.V_nil _ _ _ _ _ | exact Kd.Q_nil _ _ _ _ _ | exact Kd.S_nil _ _ _ _ _⟩, ⟨zB ad.out⟩, ⟨zB ac.out⟩, ⟨zS HB.out⟩⟩
         case round =>
          clear H'
          try clear c1
          try clear c2
          try clear p2
          try clear q2
          try clear hx2
          try clear c3
          try clear p3
          try clear q3
          try clear hx3
          try clear c4
          try clear c5
          try clear p5
          try clear q5
          try clear hx5
          try clear hf5
          try clear c6
          try clear p6
          try clear q6
          try clear hx6
          try clear hf6
          try clear c8
          try clear bz
          try clear dK
          try clear dL
          try clear bJ
          try clear et
          try clear bA
          try clear cW
          try clear cX
          try clear bB
          try clear cY
          try clear cZ
          try clear bC
          try clear da
          try clear bN
          try clear dt
          try clear ev
          try clear q29
          try clear hx29
          try clear eY
          try clear gw
          try clear q30
          try clear hx30
          try clear eZ
          try clear bW
          try clear bX
          try clear fa
          try clear fb
          try clear fc
          try clear fd
          try clear fe
          try clear ff
          try clear dd
          try clear gx
          try clear gy
          try clear bL
          try clear du
          try clear de
          try clear ej
          try clear df
          try clear ek
          try clear dg
          try clear q56
          try clear hx56
          try clear hf56
          try clear gz
          try clear gA
          try clear dh
          try clear em
          try clear gB
          try clear di
          try clear en
          try clear dj
          try clear q67
          try clear hx67
          try clear hf67
          try clear gC
          try clear gD
          try clear aH aI aJ aK
          try clear aT aU aV aW
          try clear bp bq br bs
          try clear bO bP bQ bR
          try clear bY bZ ca cb
          try clear cg ch ci cj
          try clear co cp cq cr
          try clear dA dB dC dD
          try clear cx cy cz cA
          try clear cG cH cI cJ
          try clear bc bd be bf
          try clear aM
          try clear aN
          try clear aQ
          try clear aR
          try clear aX
          try clear aY
          try clear aZ
          try clear ba
          try clear bt
          try clear bu
          try clear bv
          try clear bw
          try clear bS
          try clear bT
          try clear bU
          try clear bV
          try clear cc
          try clear cd
          try clear ce
          try clear cf
          try clear ck
          try clear cl
          try clear cm
          try clear cn
          try clear ct
          try clear cu
          try clear cv
          try clear cw
          try clear dE
          try clear dF
          try clear dG
          try clear dH
          try clear cB
          try clear cC
          try clear cD
          try clear cE
          try clear cK
          try clear cL
          try clear cM
          try clear cN
          try clear bg
          try clear bh
          try clear bi
          try clear bj
          try clear az
          try clear aA
          try clear aC
          try clear aD
          try clear cF
          try clear cO
          try clear dW
          try clear ec
          try clear p2
          try clear ev
          try clear bK
          try clear db
          try clear dc
          try clear dg
          try clear p6
          try clear dj
          try clear q2
          try clear q29
          try clear q293
          try clear q298
          try clear q301
          try clear q56
          try clear q67
          obtain ⟨af, an, av, rfl, HA, HK3, ae, ak, ad, ac, HB⟩ := hrel
          cases gk with
          | zero => exact absurd HA.out (by simp [spec_AutoMake.l1])
          | succ k3 =>
           have H := HA.out; clear HA; simp only [spec_AutoMake.l1] at H
           by_cases cP : af < (ab.length : Int)
           ·rw [if_pos cP] at H; have ep : decide (af < (ab.length : Int)) = true := decide_eq_true cP; clear cP
            by_cases dv : 0 ≤ af
            ·rw [if_pos dv] at H; have fV : decide (0 ≤ af) = true := decide_eq_true dv; clear dv
             by_cases cQ : (rd ab af) > 0
             ·rw [if_pos cQ] at H; have eq : decide (0 < (rd ab af)) = true := decide_eq_true cQ; clear cQ
              by_cases dw : a1 = 0
              ·rw [if_pos dw] at H; exact absurd H (by simp)
              ·rw [if_neg dw] at H; have fW : (a1 == 0) = false := beq_eq_false_iff_ne.mpr dw; have fX : (a1 != 0) = true := bne_iff_ne.mpr dw
               by_cases dx : a0 = 0
               ·rw [if_pos dx] at H; exact absurd H (by simp)
               ·rw [if_neg dx] at H; have fY : (a0 == 0) = false := beq_eq_false_iff_ne.mpr dx; have fZ : (a0 != 0) = true := bne_iff_ne.mpr dx
                by_cases dy : an.length < 4398046511104
                ·rw [if_pos dy] at H; have LMc79 := Aside0.mk dy; clear dy; obtain ⟨bM, bo⟩ : ∃ y_ : List (S33), y_ = (an ++ [(⟨wrap64 (Int.tdiv (wrap64 (Int.tdiv af a1)) a0), Int.tmod (wrap64 (Int.tdiv af a1)) a0, Int.tmod af a1, ((rd ab af) == 2)⟩ : S33)]) := ⟨_, rfl⟩
                 replace H : (spec_AutoMake.l1 k3 a0 a1 ab (wrap64 (af + 1)) a0 a1 a2 bM) = some (r1, r2, r3, r4, r5) := by first | (rw [bo]; with_reducible exact H) | (have H2_ := (Option.bind_some _ _).symm.trans H; rw [bo]; with_reducible exact H2_) | (have H2_ := (Option.bind_some _ _).symm.trans H; with_reducible exact H2_) | with_reducible exact H | (rw [bo]; exact H) | exact H
                 have er := Aside0.mk bo; clear bo; have H' := Aside0.mk H; clear H; obtain ⟨gj, gl, ey⟩ := Kd.R_slice ae.out; subst ey; have bb : 0 ≤ (af : Int) := of_decide_eq_true (by first | (with_reducible assumption) | assumption); have q304 : af < (ab.length : Int) := of_decide_eq_true (by first | (with_reducible assumption) | assumption); obtain ⟨ad304, e304, dI⟩ := Kd.at_int (Kd.R_reads' ae.out).2.2 af bb q304
                 cases e304
                 replace bb := eq_true bb; replace q304 := eq_true q304
                 try go_wp2
                 replace ae := Aside0.mk (Kd.R_drew ae.out); replace ak := Aside0.mk (Kd.R_drew ak.out); replace ad := Aside0.mk (blk_drew ad.out); replace ac := Aside0.mk (blk_drew ac.out); replace HB := Aside0.mk (below_drew1 HB.out); have dn : 0 ≤ (af : Int) := of_decide_eq_true (by first | (with_reducible assumption) | assumption); have q305 : af < (ab.length : Int) := of_decide_eq_true (by first | (with_reducible assumption) | assumption); obtain ⟨ad305, e305, cR⟩ := Kd.at_int (Kd.R_reads' ae.out).2.2 af dn q305; obtain rfl : ad304 = ad305 := (by injection e305); replace dn := eq_true dn; replace q305 := eq_true q305; refine start_ (n := 25) (S := fun w' => w'.cell? ⟨al, 0, none⟩ = some (.int .i64 a0) ∧ w'.cell? ⟨al, 1, none⟩ = some (.int .i64 a1) ∧ w'.cell? ⟨al, 2, none⟩ = some (.int .i64 a2) ∧ w'.cell? ⟨al, 3, none⟩ = some (av) ∧ w'.cell? (ad304.add (af).toNat) = some (.int .i64 (rd ab af))) (ds := [22, 24]) bl0 (by kernel_rfl) rfl rfl ⟨b1 ac 0, b1 ac 1, b1 ac 2, b1 ac 3, cR⟩ (fun hHeld => ?_); refine with_tabW spec_AutoMake.tab20 spec_AutoMake.bits20 (fun HT_ HW_ => ?_); generalize wr.drew = gE at ae ak ad ac HB cR hHeld ⊢
                 refine pv_ 0 (some 101) bl1 HT_ ?_
                 refine pv_ 2 (some 103) bl2 HT_ ?_
                 refine pv_ 3 (some 104) bl3 HT_ ?_
                 refine pv_ 4 (some 105) bl4 HT_ ?_
                 refine pv_ 5 (some 106) bl5 HT_ ?_
                 refine pv_ 6 (some 107) bl6 HT_ ?_
                 refine pv_ 7 (some 108) bl7 HT_ ?_
                 refine pv_ 8 (some 109) bl8 HT_ ?_
                 refine pv_ 9 (some 110) bl9 HT_ ?_
                 refine pv_ 10 (some 111) bl10 HT_ ?_
                 refine pv_ 11 (some 112) bl11 HT_ ?_
                 refine pv_ 12 (some 113) bl12 HT_ ?_
                 refine pv_ 13 (some 114) bl13 HT_ ?_
                 refine pv_ 14 (some 115) bl14 HT_ ?_
                 refine pv_ 15 (some 116) bl15 HT_ ?_
                 refine pv_ 16 (some 117) bl16 HT_ ?_
                 refine pv_ 17 (some 118) bl17 HT_ ?_
                 refine tk_ 1 (some 102) bl18 HT_ HW_ hHeld ?_
                 refine tk_ 18 (some 119) bl19 HT_ HW_ hHeld ?_
                 refine pv_ 19 (some 120) bl20 HT_ ?_
                 refine pv_ 20 (some 121) bl21 HT_ ?_
                 refine on_ 21 (some 122) bl22 HT_ (fun K hK => ?_); refine value_ (w1 := ?_) (v := ?_) (by rfl) rfl ?_ ?_; rotate_left 2
                 ·go_simp
                  constructor
                  ·rfl
                  ·rfl
                 refine hK.out _ _ ⟨(blk_cell (blk_alloc ac.out _) 0).trans rfl, (blk_cell (blk_alloc ac.out _) 1).trans rfl, (blk_cell (blk_alloc ac.out _) 2).trans rfl, (blk_cell (blk_alloc ac.out _) 3).trans rfl, (World.cell?_alloc_lt _ _ _ (World.block_lt_of_cell? _ _ (hHeld.2.2.2.2))).trans (hHeld.2.2.2.2)⟩ (fun hHeld => ?_); clear hK K; refine norm_ (a' := ?_) ?_ ?_; rotate_left
                 ·show Act.put _ (some 122) _ = _; simp only [Act.put, q5]; rfl
                 refine last_ (i := 22) (N := some 123) bl23 rfl rfl (one_of HT_.out (by kernel_rfl)) (by decide) (fun K hK => ?_); refine Kd.R_append_step k33 (w0 := w) w.heap.size (by rfl) (.tmp 102) (.tmp 122) 24 33 (.agg #[(.int .i64 0), (.int .i64 0), (.int .i64 0), (.bool false)]) 32 rfl Try.underlying24 info33 rfl (by decide) (by omega) av an (⟨wrap64 (Int.tdiv (wrap64 (Int.tdiv af a1)) a0), Int.tmod (wrap64 (Int.tdiv af a1)) a0, Int.tmod af a1, ((rd ab af) == 2)⟩ : S33) [.int .i64 (wrap64 (Int.tdiv (wrap64 (Int.tdiv af a1)) a0)), .int .i64 (Int.tmod (wrap64 (Int.tdiv af a1)) a0), .int .i64 (Int.tmod af a1), .bool ((rd ab af) == 2)] (fun _ => True) (fun _ => False) rfl rfl ?aP (fun _ hk => hk.elim) ?aF ?aO ?aB ?aS ?aL ?_
                 (case aP => exact k33_mkM _ _ _ (⟨wrap64 (Int.tdiv (wrap64 (Int.tdiv af a1)) a0), Int.tmod (wrap64 (Int.tdiv af a1)) a0, Int.tmod af a1, ((rd ab af) == 2)⟩ : S33))
                 (case aB => exact (zS HB.out))
                 (case aF => exact (fun _ _ => trivial))
                 (case aO => exact (zR ak.out))
                 (case aS => exact (below_size (zS HB.out)))
                 (case aL => have := LMc79.out; omega)
                 intro gm fj ho hb hg hat; rw [← er.out] at ho; have bD := Aside0.mk (Kd.R_over' (zR ae.out) (Kd.R_typed (zR ak.out)) (by decide) hg); have bE := Aside0.mk (blk_grown (g := ao) (o := .cells #[.int .i64 ah, .int .i64 ai, .int .i64 aj, .slice none 0 0] 28 (0, 0)) (zB ad.out) hg (Kd.R_ne ak.out ad.out (by decide))); have bF := Aside0.mk (blk_grown (g := al) (o := .cells #[.int .i64 a0, .int .i64 a1, .int .i64 a2, av] 28 (0, 0)) (zB ac.out) hg (Kd.R_ne ak.out ac.out (by decide))); have bG := Aside0.mk (hb); have bH := Aside0.mk (ho); clear ae; clear ad; clear ac; clear HB; clear ak; have ae := bD; have ad := bE; have ac := bF; have HB := bG; have dz := bH; clear bD bE bF bG bH; clear ho hb hg hat; obtain ⟨dp, dq, ee⟩ := Kd.R_slice dz.out
                 (first | subst ee | (injection ee with f1_ f2_ f3_; have f4_ := f1_.symm; have f5_ := f3_.symm; clear f1_ f2_ f3_; subst f4_; subst f5_))
                 refine hK.out _ _ ?_; clear hK K; refine norm_ (a' := ?_) ?_ ?_; rotate_left
                 ·show Act.put _ (some 123) _ = _; simp only [Act.put, q5]; rfl
                 refine pv_ 23 (some 124) bl24 HT_ ?_
                 refine last_ (i := 24) (N := none) bl25 rfl rfl (one_of HT_.out (by kernel_rfl)) (by decide) (fun K hK => ?_); have gn : fj.cell? ⟨al, 3, none⟩ = some (av) := b1 ac 3; have ga := blk_frozen ac.out 3; have eC := ap.out; have eD := aq.out; refine skip_ (w1 := ?_) (by rfl) rfl ?_ ?_; rotate_left
                 ·go_simp; rfl
                 refine hK.out _ _ ?_; clear hK K; refine done_ (done_of HT_.out (by kernel_rfl)) ?_
                 try go_wp2
                 (first | go_roundg k3 | ((try simp only [← hji21]); go_roundg k3))
                 case measure => have := HJ4.out; have := HK2.out; have := HK3.out; omega
                 case rel => exact ⟨(wrap64 (af + 1)), (bM), (.slice dp bM.length dq), (by first | rfl | (simp; done) | (simp [*]; done) | (rw [Int.tmod_eq_emod_of_nonneg (Int.natCast_nonneg _)]; done)), (by first | exact H' | (have h_ := H'; (try simp only [← hji21] at h_); (try simp only [← hji21]); exact h_)), ⟨by have := HJ4.out; have := HK2.out; have := HK3.out; omega⟩, ⟨by (with_reducible repeat (first | apply Kd.R_alloc | apply Kd.R_drewN | apply Kd.R_drew)); exact Kd.R_mono (Kd.R_far (p := ⟨al, 3, none⟩) (Kd.R_types ae.out ac.out (by decide)) (fun _ hk => hk.2) (.slice dp bM.length dq)) (fun _ hk => trivial)⟩, ⟨by (with_reducible repeat (first | apply Kd.R_alloc | apply Kd.R_drewN | apply Kd.R_drew)); exact Kd.R_mono (Kd.R_far (p := ⟨al, 3, none⟩) (Kd.R_types dz.out ac.out (by decide)) (fun _ hk => hk.2) (.slice dp bM.length dq)) (fun _ hk => trivial)⟩, ⟨zB ad.out⟩, ⟨by (with_reducible repeat (first | refine blk_drewN ?_ _ | refine blk_drew ?_ | refine blk_alloc ?_ _)); refine blk_put (cs := #[.int .i64 a0, .int .i64 a1, .int .i64 a2, av]) ?_ 3 _ rfl; (with_reducible repeat (first | refine blk_drewN ?_ _ | refine blk_drew ?_ | refine blk_alloc ?_ _)); exact ac.out⟩, ⟨zS HB.out⟩⟩
                ·rw [if_neg dy] at H; exact absurd H (by simp)
             ·rw [if_neg cQ] at H; have eq : decide (0 < (rd ab af)) = false := decide_eq_false cQ; clear cQ; have H' := Aside0.mk H; clear H; obtain ⟨go, gp, ez⟩ := Kd.R_slice ae.out; subst ez; have bb : 0 ≤ (af : Int) := of_decide_eq_true (by first | (with_reducible assumption) | assumption); have q304 : af < (ab.length : Int) := of_decide_eq_true (by first | (with_reducible assumption) | assumption); obtain ⟨ad304, e304, dI⟩ := Kd.at_int (Kd.R_reads' ae.out).2.2 af bb q304
              cases e304
              replace bb := eq_true bb; replace q304 := eq_true q304
              go_wp2
              (first | go_roundg k3 | ((try simp only [← hji21]); go_roundg k3))
              case measure => have := HJ4.out; have := HK2.out; have := HK3.out; omega
              case rel => exact ⟨(wrap64 (af + 1)), (an), (av), (by first | rfl | (simp; done) | (simp [*]; done) | (rw [Int.tmod_eq_emod_of_nonneg (Int.natCast_nonneg _)]; done)), (by first | exact H' | (have h_ := H'; (try simp only [← hji21] at h_); (try simp only [← hji21]); exact h_)), ⟨by have := HJ4.out; have := HK2.out; have := HK3.out; omega⟩, ⟨zR ae.out⟩, ⟨zR ak.out⟩, ⟨zB ad.out⟩, ⟨zB ac.out⟩, ⟨zS HB.out⟩⟩
            ·rw [if_neg dv] at H; exact absurd H (by simp)
           ·rw [if_neg cP] at H; have ep : decide (af < (ab.length : Int)) = false := decide_eq_false cP; clear cP; simp only [Option.some.injEq, Prod.mk.injEq] at H; obtain ⟨rfl, rfl, rfl, rfl, rfl⟩ := H; obtain ⟨gq, gr, eA⟩ := Kd.R_slice ae.out; subst eA; have gb := aq.out; have gc := ap.out; obtain ⟨eE, eF, eG, eH, eI, eJ, eK, eL⟩ := cz4 ac; obtain ⟨eM, eN, eO, eP, eQ, eR, eS, eT⟩ := cz4 ad; obtain ⟨ef, eg, eB⟩ := Kd.R_slice ak.out; subst eB
            go_wp2
            refine bodyPost_ret (results_ct rfl _ _ ao 28 #[.int .i64 a0, .int .i64 a1, .int .i64 a2, .slice ef an.length eg] (0, 0) _ rfl (xP4 ad.out) Try.underlying28 rfl (by kernel_rfl)) rfl ?_; exact ⟨_, by first | rfl | (simp [errW_none, errW_some] <;> rfl) | (simp only [← hji21]; first | rfl | (simp [errW_none, errW_some] <;> rfl)) | (simp [*, errW_none, errW_some] <;> rfl), by (with_reducible repeat (first | apply Kd.R_alloc | apply Kd.R_drewN | apply Kd.R_drew)); exact Kd.R_mono (Kd.R_far (p := ⟨ao, 3, none⟩) (Kd.R_far (p := ⟨ao, 2, none⟩) (Kd.R_far (p := ⟨ao, 1, none⟩) (Kd.R_far (p := ⟨ao, 0, none⟩) (Kd.R_types ak.out ad.out (by decide)) (fun _ hk => hk.2) (.int .i64 a0)) (fun _ hk => hk.2) (.int .i64 a1)) (fun _ hk => hk.2) (.int .i64 a2)) (fun _ hk => hk.2) (.slice ef an.length eg)) (fun _ hk => trivial), by repeat (first | (with_reducible first | exact HB.out | apply below_alloc | apply pw_below_drewN | apply below_drew1 | refine below_set ?_ cU.out | refine below_set ?_ cV.out) | exact HB.out)⟩
     ·rw [if_neg bB] at H; exact absurd H (by simp)
    ·rw [if_neg bA] at H; exact absurd H (by simp)

end Go.Proofs.Ytigmokdcanebeaa.MFnMake
