-- Written by a program of this session, out of Lean's print of the translation. Not trusted: Lean checks it.
import Derived.Test.YtlallflpicgcmaaMFnReach4x0
import Derived.Test.YtlallflpicgcmaaMFnReach4x1
import Derived.Test.YtlallflpicgcmaaMFnReach4x2
import Derived.Test.YtlallflpicgcmaaMFnReach4x5
namespace Go.Proofs.Ytlallflpicgcmaa.MFnReach4
open Go.RowKit Go.Proofs.YtlallflpicgcmaaW.PrintWords Go.Proofs.YtlallflpicgcmaaW.PrintLast Go.Proofs.YtlallflpicgcmaaW.PrintMore Go.Proofs.Ytlallflpicgcmaa.Short4
attribute [local go_sem] max2_int min2_int max_two min_two max_three min_three max_four min_four   -- for this text's walks alone
set_option linter.unusedVariables false
set_option linter.unusedSimpArgs false

section
open Go.Proofs.Ytlallflpicgcmaa.Short2.T
abbrev spec_AutoMake.bl0 : Array Bool := #[f, f, f, f, f, f, f, f, f, f, f, f, f, f, f, f, f, f, f, f, f, f, f, f, f]
abbrev spec_AutoMake.bl1 : Array Bool := #[t, f, f, f, f, f, f, f, f, f, f, f, f, f, f, f, f, f, f, f, f, f, f, f, f]
abbrev spec_AutoMake.bl2 : Array Bool := #[t, f, t, f, f, f, f, f, f, f, f, f, f, f, f, f, f, f, f, f, f, f, f, f, f]
abbrev spec_AutoMake.bl3 : Array Bool := #[t, f, t, t, f, f, f, f, f, f, f, f, f, f, f, f, f, f, f, f, f, f, f, f, f]
abbrev spec_AutoMake.bl4 : Array Bool := #[t, f, t, t, t, f, f, f, f, f, f, f, f, f, f, f, f, f, f, f, f, f, f, f, f]
abbrev spec_AutoMake.bl5 : Array Bool := #[t, f, t, t, t, t, f, f, f, f, f, f, f, f, f, f, f, f, f, f, f, f, f, f, f]
abbrev spec_AutoMake.bl6 : Array Bool := #[t, f, t, t, t, t, t, f, f, f, f, f, f, f, f, f, f, f, f, f, f, f, f, f, f]
abbrev spec_AutoMake.bl7 : Array Bool := #[t, f, t, t, t, t, t, t, f, f, f, f, f, f, f, f, f, f, f, f, f, f, f, f, f]
abbrev spec_AutoMake.bl8 : Array Bool := #[t, f, t, t, t, t, t, t, t, f, f, f, f, f, f, f, f, f, f, f, f, f, f, f, f]
abbrev spec_AutoMake.bl9 : Array Bool := #[t, f, t, t, t, t, t, t, t, t, f, f, f, f, f, f, f, f, f, f, f, f, f, f, f]
abbrev spec_AutoMake.bl10 : Array Bool := #[t, f, t, t, t, t, t, t, t, t, t, f, f, f, f, f, f, f, f, f, f, f, f, f, f]
abbrev spec_AutoMake.bl11 : Array Bool := #[t, f, t, t, t, t, t, t, t, t, t, t, f, f, f, f, f, f, f, f, f, f, f, f, f]
abbrev spec_AutoMake.bl12 : Array Bool := #[t, f, t, t, t, t, t, t, t, t, t, t, t, f, f, f, f, f, f, f, f, f, f, f, f]
abbrev spec_AutoMake.bl13 : Array Bool := #[t, f, t, t, t, t, t, t, t, t, t, t, t, t, f, f, f, f, f, f, f, f, f, f, f]
abbrev spec_AutoMake.bl14 : Array Bool := #[t, f, t, t, t, t, t, t, t, t, t, t, t, t, t, f, f, f, f, f, f, f, f, f, f]
abbrev spec_AutoMake.bl15 : Array Bool := #[t, f, t, t, t, t, t, t, t, t, t, t, t, t, t, t, f, f, f, f, f, f, f, f, f]
abbrev spec_AutoMake.bl16 : Array Bool := #[t, f, t, t, t, t, t, t, t, t, t, t, t, t, t, t, t, f, f, f, f, f, f, f, f]
abbrev spec_AutoMake.bl17 : Array Bool := #[t, f, t, t, t, t, t, t, t, t, t, t, t, t, t, t, t, t, f, f, f, f, f, f, f]
abbrev spec_AutoMake.bl18 : Array Bool := #[t, t, t, t, t, t, t, t, t, t, t, t, t, t, t, t, t, t, f, f, f, f, f, f, f]
abbrev spec_AutoMake.bl19 : Array Bool := #[t, t, t, t, t, t, t, t, t, t, t, t, t, t, t, t, t, t, t, f, f, f, f, f, f]
abbrev spec_AutoMake.bl20 : Array Bool := #[t, t, t, t, t, t, t, t, t, t, t, t, t, t, t, t, t, t, t, t, f, f, f, f, f]
abbrev spec_AutoMake.bl21 : Array Bool := #[t, t, t, t, t, t, t, t, t, t, t, t, t, t, t, t, t, t, t, t, t, f, f, f, f]
abbrev spec_AutoMake.bl22 : Array Bool := #[t, t, t, t, t, t, t, t, t, t, t, t, t, t, t, t, t, t, t, t, t, t, f, f, f]
abbrev spec_AutoMake.bl23 : Array Bool := #[t, t, t, t, t, t, t, t, t, t, t, t, t, t, t, t, t, t, t, t, t, t, t, f, f]
abbrev spec_AutoMake.bl24 : Array Bool := #[t, t, t, t, t, t, t, t, t, t, t, t, t, t, t, t, t, t, t, t, t, t, t, t, f]
abbrev spec_AutoMake.bl25 : Array Bool := #[t, t, t, t, t, t, t, t, t, t, t, t, t, t, t, t, t, t, t, t, t, t, t, t, t]
end
/-! ### spec_AutoMake: function 119 -/
mutual
def spec_AutoMake.j0 : Nat → Int → Int → List (S68) → Bool → Int → Int → Int → Option (Int × Int × Int × (List (S68)) × Bool)
 | 0, _, _, _, _, _, _, _ => none
 | k + 1, x0, x1, x3, x28, x203000, x203001, x203002 => if x28 = true then (some (0, 0, 0, ([] : List (S68)), false)) else (if 0 ≤ (wrap64 ((wrap64 (x1 * x0)) * x1)) then (if (wrap64 ((wrap64 (x1 * x0)) * x1) : Int).toNat ≤ 35184372088832 then (spec_AutoMake.l0 k x0 x1 x3 (List.replicate (wrap64 ((wrap64 (x1 * x0)) * x1) : Int).toNat 0) 0 x203000 x203001 x203002) else (none)) else (none))
def spec_AutoMake.l0 : Nat → Int → Int → List (S68) → List Int → Int → Int → Int → Int → Option (Int × Int × Int × (List (S68)) × Bool)
 | 0, _, _, _, _, _, _, _, _ => none
 | k + 1, x0, x1, x3, x11, x12, x203000, x203001, x203002 => if x12 < (x3.length : Int) then (if 0 ≤ x12 then ((spec_l4State.f ((rd_T68 x3 x12).f0) x1).bind fun t209 => (if t209 = true then ((spec_l4State.f ((rd_T68 x3 x12).f2) x1).bind fun t210 => (if t210 = true then ((spec_l1In.f ((rd_T68 x3 x12).f1) 0 (wrap64 (x0 - 1))).bind fun t211 => (spec_AutoMake.j2 k x0 x1 x3 x11 x12 (!t211) x203000 x203001 x203002 ((rd_T68 x3 x12).f0) ((rd_T68 x3 x12).f1) ((rd_T68 x3 x12).f2) ((rd_T68 x3 x12).f3))) else (spec_AutoMake.j2 k x0 x1 x3 x11 x12 true x203000 x203001 x203002 ((rd_T68 x3 x12).f0) ((rd_T68 x3 x12).f1) ((rd_T68 x3 x12).f2) ((rd_T68 x3 x12).f3)))) else (spec_AutoMake.j2 k x0 x1 x3 x11 x12 true x203000 x203001 x203002 ((rd_T68 x3 x12).f0) ((rd_T68 x3 x12).f1) ((rd_T68 x3 x12).f2) ((rd_T68 x3 x12).f3)))) else (none)) else (spec_AutoMake.l1 k x0 x1 x11 0 x203000 x203001 x203002 ([] : List (S68)))
def spec_AutoMake.j2 : Nat → Int → Int → List (S68) → List Int → Int → Bool → Int → Int → Int → Int → Int → Int → Bool → Option (Int × Int × Int × (List (S68)) × Bool)
 | 0, _, _, _, _, _, _, _, _, _, _, _, _, _ => none
 | k + 1, x0, x1, x3, x11, x12, x65, x203000, x203001, x203002, x209000, x209001, x209002, x209003 => if x65 = true then (some (0, 0, 0, ([] : List (S68)), false)) else (if x209003 = true then (if 0 ≤ (wrap64 ((wrap64 ((wrap64 ((wrap64 (x209000 * x0)) + x209001)) * x1)) + x209002)) then (if (wrap64 ((wrap64 ((wrap64 ((wrap64 (x209000 * x0)) + x209001)) * x1)) + x209002)) < (x11.length : Int) then ((spec_l1Max.f (rd x11 (wrap64 ((wrap64 ((wrap64 ((wrap64 (x209000 * x0)) + x209001)) * x1)) + x209002))) 2).bind fun t213 => (spec_AutoMake.l0 k x0 x1 x3 (x11.set ((wrap64 ((wrap64 ((wrap64 ((wrap64 (x209000 * x0)) + x209001)) * x1)) + x209002)) : Int).toNat t213) (wrap64 (x12 + 1)) x203000 x203001 x203002)) else (none)) else (none)) else (if 0 ≤ (wrap64 ((wrap64 ((wrap64 ((wrap64 (x209000 * x0)) + x209001)) * x1)) + x209002)) then (if (wrap64 ((wrap64 ((wrap64 ((wrap64 (x209000 * x0)) + x209001)) * x1)) + x209002)) < (x11.length : Int) then ((spec_l1Max.f (rd x11 (wrap64 ((wrap64 ((wrap64 ((wrap64 (x209000 * x0)) + x209001)) * x1)) + x209002))) 1).bind fun t216 => (spec_AutoMake.l0 k x0 x1 x3 (x11.set ((wrap64 ((wrap64 ((wrap64 ((wrap64 (x209000 * x0)) + x209001)) * x1)) + x209002)) : Int).toNat t216) (wrap64 (x12 + 1)) x203000 x203001 x203002)) else (none)) else (none)))
def spec_AutoMake.l1 : Nat → Int → Int → List Int → Int → Int → Int → Int → List (S68) → Option (Int × Int × Int × (List (S68)) × Bool)
 | 0, _, _, _, _, _, _, _, _ => none
 | k + 1, x0, x1, x11, x16, x203000, x203001, x203002, x203003 => if x16 < (x11.length : Int) then (if 0 ≤ x16 then (if (rd x11 x16) > 0 then (if x1 = 0 then (none) else (if x0 = 0 then (none) else (if x203003.length < 4398046511104 then (spec_AutoMake.l1 k x0 x1 x11 (wrap64 (x16 + 1)) x203000 x203001 x203002 (x203003 ++ [(⟨wrap64 (Int.tdiv (wrap64 (Int.tdiv x16 x1)) x0), Int.tmod (wrap64 (Int.tdiv x16 x1)) x0, Int.tmod x16 x1, ((rd x11 x16) == 2)⟩ : S68)])) else (none)))) else (spec_AutoMake.l1 k x0 x1 x11 (wrap64 (x16 + 1)) x203000 x203001 x203002 x203003)) else (none)) else (some (x203000, x203001, x203002, x203003, true))
end
def spec_AutoMake.f (k : Nat) (a0 : Int) (a1 : Int) (a2 : Int) (l3 : List (S68)) : Option (Int × Int × Int × (List (S68)) × Bool) := (spec_AutoOk.f k a0 a1 a2 ([] : List (S68))).bind fun t203 => (if t203 = true then (spec_AutoMake.j0 k a0 a1 l3 (decide ((l3.length : Int) > 2000)) a0 a1 a2) else (spec_AutoMake.j0 k a0 a1 l3 true a0 a1 a2))
theorem spec_AutoMake.mono_l : ∀ k, (∀ y0 y1 y2 y3 y4 y5 y6, LeO (spec_AutoMake.j0 k y0 y1 y2 y3 y4 y5 y6) (spec_AutoMake.j0 (k + 1) y0 y1 y2 y3 y4 y5 y6)) ∧ (∀ y0 y1 y2 y3 y4 y5 y6 y7, LeO (spec_AutoMake.l0 k y0 y1 y2 y3 y4 y5 y6 y7) (spec_AutoMake.l0 (k + 1) y0 y1 y2 y3 y4 y5 y6 y7)) ∧ (∀ y0 y1 y2 y3 y4 y5 y6 y7 y8 y9 y10 y11 y12, LeO (spec_AutoMake.j2 k y0 y1 y2 y3 y4 y5 y6 y7 y8 y9 y10 y11 y12) (spec_AutoMake.j2 (k + 1) y0 y1 y2 y3 y4 y5 y6 y7 y8 y9 y10 y11 y12)) ∧ (∀ y0 y1 y2 y3 y4 y5 y6 y7, LeO (spec_AutoMake.l1 k y0 y1 y2 y3 y4 y5 y6 y7) (spec_AutoMake.l1 (k + 1) y0 y1 y2 y3 y4 y5 y6 y7))
 | 0 => ⟨fun _ _ _ _ _ _ _ r h => by simp [spec_AutoMake.j0] at h, fun _ _ _ _ _ _ _ _ r h => by simp [spec_AutoMake.l0] at h, fun _ _ _ _ _ _ _ _ _ _ _ _ _ r h => by simp [spec_AutoMake.j2] at h, fun _ _ _ _ _ _ _ _ r h => by simp [spec_AutoMake.l1] at h⟩
 | k + 1 => by
  obtain ⟨ih0, ih1, ih2, ih3⟩ := spec_AutoMake.mono_l k
  refine ⟨?_, ?_, ?_, ?_⟩
  ·intro y0 y1 y2 y3 y4 y5 y6
   unfold spec_AutoMake.j0
   repeat' first
   | (with_reducible exact ih0 _ _ _ _ _ _ _)
   | (with_reducible exact ih1 _ _ _ _ _ _ _ _)
   | (with_reducible exact ih2 _ _ _ _ _ _ _ _ _ _ _ _ _)
   | (with_reducible exact ih3 _ _ _ _ _ _ _ _)
   | (with_reducible exact spec_AutoOk.mono _ _ _ _ _)
   | (with_reducible exact LeO.refl _)
   | (with_reducible exact LeO.none _)
   | (with_reducible refine LeO.ite ?_ ?_)
   | (with_reducible refine LeO.bind ?_ (fun _ => ?_))
   | exact ih0 _ _ _ _ _ _ _
   | exact ih1 _ _ _ _ _ _ _ _
   | exact ih2 _ _ _ _ _ _ _ _ _ _ _ _ _
   | exact ih3 _ _ _ _ _ _ _ _
   | exact spec_AutoOk.mono _ _ _ _ _
   | exact LeO.none _
   | refine LeO.ite ?_ ?_
   | refine LeO.bind ?_ (fun _ => ?_)
  ·intro y0 y1 y2 y3 y4 y5 y6 y7
   unfold spec_AutoMake.l0
   repeat' first
   | (with_reducible exact ih0 _ _ _ _ _ _ _)
   | (with_reducible exact ih1 _ _ _ _ _ _ _ _)
   | (with_reducible exact ih2 _ _ _ _ _ _ _ _ _ _ _ _ _)
   | (with_reducible exact ih3 _ _ _ _ _ _ _ _)
   | (with_reducible exact spec_AutoOk.mono _ _ _ _ _)
   | (with_reducible exact LeO.refl _)
   | (with_reducible exact LeO.none _)
   | (with_reducible refine LeO.ite ?_ ?_)
   | (with_reducible refine LeO.bind ?_ (fun _ => ?_))
   | exact ih0 _ _ _ _ _ _ _
   | exact ih1 _ _ _ _ _ _ _ _
   | exact ih2 _ _ _ _ _ _ _ _ _ _ _ _ _
   | exact ih3 _ _ _ _ _ _ _ _
   | exact spec_AutoOk.mono _ _ _ _ _
   | exact LeO.none _
   | refine LeO.ite ?_ ?_
   | refine LeO.bind ?_ (fun _ => ?_)
  ·intro y0 y1 y2 y3 y4 y5 y6 y7 y8 y9 y10 y11 y12
   unfold spec_AutoMake.j2
   repeat' first
   | (with_reducible exact ih0 _ _ _ _ _ _ _)
   | (with_reducible exact ih1 _ _ _ _ _ _ _ _)
   | (with_reducible exact ih2 _ _ _ _ _ _ _ _ _ _ _ _ _)
   | (with_reducible exact ih3 _ _ _ _ _ _ _ _)
   | (with_reducible exact spec_AutoOk.mono _ _ _ _ _)
   | (with_reducible exact LeO.refl _)
   | (with_reducible exact LeO.none _)
   | (with_reducible refine LeO.ite ?_ ?_)
   | (with_reducible refine LeO.bind ?_ (fun _ => ?_))
   | exact ih0 _ _ _ _ _ _ _
   | exact ih1 _ _ _ _ _ _ _ _
   | exact ih2 _ _ _ _ _ _ _ _ _ _ _ _ _
   | exact ih3 _ _ _ _ _ _ _ _
   | exact spec_AutoOk.mono _ _ _ _ _
   | exact LeO.none _
   | refine LeO.ite ?_ ?_
   | refine LeO.bind ?_ (fun _ => ?_)
  ·intro y0 y1 y2 y3 y4 y5 y6 y7
   unfold spec_AutoMake.l1
   repeat' first
   | (with_reducible exact ih0 _ _ _ _ _ _ _)
   | (with_reducible exact ih1 _ _ _ _ _ _ _ _)
   | (with_reducible exact ih2 _ _ _ _ _ _ _ _ _ _ _ _ _)
   | (with_reducible exact ih3 _ _ _ _ _ _ _ _)
   | (with_reducible exact spec_AutoOk.mono _ _ _ _ _)
   | (with_reducible exact LeO.refl _)
   | (with_reducible exact LeO.none _)
   | (with_reducible refine LeO.ite ?_ ?_)
   | (with_reducible refine LeO.bind ?_ (fun _ => ?_))
   | exact ih0 _ _ _ _ _ _ _
   | exact ih1 _ _ _ _ _ _ _ _
   | exact ih2 _ _ _ _ _ _ _ _ _ _ _ _ _
   | exact ih3 _ _ _ _ _ _ _ _
   | exact spec_AutoOk.mono _ _ _ _ _
   | exact LeO.none _
   | refine LeO.ite ?_ ?_
   | refine LeO.bind ?_ (fun _ => ?_)
theorem spec_AutoMake.mono : ∀ a0 a1 a2 a3 k, LeO (spec_AutoMake.f k a0 a1 a2 a3) (spec_AutoMake.f (k + 1) a0 a1 a2 a3) := by
 intro a0 a1 a2 a3 k
 obtain ⟨ih0, ih1, ih2, ih3⟩ := spec_AutoMake.mono_l k
 unfold spec_AutoMake.f
 repeat' first
   | (with_reducible exact ih0 _ _ _ _ _ _ _)
   | (with_reducible exact ih1 _ _ _ _ _ _ _ _)
   | (with_reducible exact ih2 _ _ _ _ _ _ _ _ _ _ _ _ _)
   | (with_reducible exact ih3 _ _ _ _ _ _ _ _)
   | (with_reducible exact spec_AutoOk.mono _ _ _ _ _)
   | (with_reducible exact LeO.refl _)
   | (with_reducible exact LeO.none _)
   | (with_reducible refine LeO.ite ?_ ?_)
   | (with_reducible refine LeO.bind ?_ (fun _ => ?_))
   | exact ih0 _ _ _ _ _ _ _
   | exact ih1 _ _ _ _ _ _ _ _
   | exact ih2 _ _ _ _ _ _ _ _ _ _ _ _ _
   | exact ih3 _ _ _ _ _ _ _ _
   | exact spec_AutoOk.mono _ _ _ _ _
   | exact LeO.none _
   | refine LeO.ite ?_ ?_
   | refine LeO.bind ?_ (fun _ => ?_)
def spec_AutoMake.T20 : Bool × List (List Nat × List Nat) := (true, [([], []), ([0], [0]), ([], []), ([], []), ([2, 3], [2, 3]), ([], []), ([4, 5], [4, 5]), ([], []), ([], []), ([7, 8], [7, 8]), ([], []), ([9, 10], [9, 10]), ([], []), ([], []), ([12, 13], [12, 13]), ([], []), ([], []), ([15, 16], [15, 16]), ([17], [17]), ([18], [18]), ([6, 11, 14, 19], [6, 11, 14, 19]), ([20], [20]), ([1, 21], [1, 21]), ([0, 1, 2, 3, 4, 5, 6, 7, 8, 9, 10, 11, 12, 13, 14, 15, 16, 17, 18, 19, 20, 21, 22], []), ([23, 22, 22, 0, 1, 2, 3, 4, 5, 6, 7, 8, 9, 10, 11, 12, 13, 14, 15, 16, 17, 18, 19, 20, 21, 22], [22, 23])])
def spec_AutoMake.B20 : List Nat := [0, 1, 0, 0, 12, 0, 60, 0, 0, 384, 0, 1920, 0, 0, 12288, 0, 0, 98304, 229376, 491520, 1048572, 2097148, 4194303, 8388607, 16777215]
theorem spec_AutoMake.tab20 : rtab .any (opsOf Try.f119 20) = spec_AutoMake.T20 := by kernel_rfl
theorem spec_AutoMake.bits20 : waitsOk spec_AutoMake.T20.2 spec_AutoMake.B20 = true := by kernel_rfl
open Go.Proofs.Ytlallflpicgcmaa.Short2 in
set_option maxHeartbeats 8000000 in
set_option maxRecDepth 100000 in
theorem spec_AutoMake.calls (k : Nat) (a0 : Int) (a1 : Int) (a2 : Int) (A3 : Option Addr) (c3 : Nat) (l3 : List (S68)) (r1 : Int) (r2 : Int) (r3 : Int) (r4 : List (S68)) (r5 : Bool) (w : World) (hr3 : Kd.C k68 w A3 l3.length l3) (hc3 : l3.length ≤ c3) (h : spec_AutoMake.f k a0 a1 a2 l3 = some (r1, r2, r3, r4, r5)) :
  Calls Try.prog 119 #[.int .i64 a0, .int .i64 a1, .int .i64 a2, .slice A3 l3.length c3] w fun e w' => ∃ v3_ : Value, e = .returned (.tuple #[.agg #[.int .i64 r1, .int .i64 r2, .int .i64 r3, v3_], .bool r5]) ∧ Kd.R k68 68 w' w.heap.size (fun _ => True) v3_ r4 ∧ Below w.heap.size w w' := by
 have hu24 := Try.underlying24; have hu68 := Try.underlying68; have HR3 := Aside0.mk hr3; have HC3 := Aside0.mk hc3; clear hr3 hc3; have HB := Aside0.mk (Below.refl w.heap.size w); have H : ((spec_AutoOk.f k a0 a1 a2 ([] : List (S68))).bind fun t203 => (if t203 = true then (spec_AutoMake.j0 k a0 a1 l3 (decide ((l3.length : Int) > 2000)) a0 a1 a2) else (spec_AutoMake.j0 k a0 a1 l3 true a0 a1 a2))) = some (r1, r2, r3, r4, r5) := h; clear h; have HC5 := Aside0.mk H; clear H
 go_enter Try.func119, Try.ntmps119
 go_upto_region 2 with (first | ((with_reducible refine gate_dst (N := 8) rfl ?_); (try (refine gate_guard (by rfl) ?_; dsimp only)); refine box_event ?hg (N := 8) ?hd (cs := #[.int .i64 0, .int .i64 0, .int .i64 0, .slice none 0 0]) (t := 24) ?hr ?_; (case hd => rfl); (case hg => rfl); (case hr => first | (go_simp; done) | (go_simp; rfl)); intro gb201 hg w6 hbox hb; have BK201 := Aside0.mk (hbox); have GW201 := xG HB hg; have GE201 := xG HB hg; replace HB := xS HB hb; clear hb hbox hg) | ((with_reducible refine gate_dst (N := 10) rfl ?_); (try (refine gate_guard (by rfl) ?_; dsimp only)); refine box_event ?hg (N := 10) ?hd (cs := #[.int .i64 0, .int .i64 0, .int .i64 0, .slice none 0 0]) (t := 24) ?hr ?_; (case hd => rfl); (case hg => rfl); (case hr => first | (go_simp; done) | (go_simp; rfl)); intro gb202 hg w7 hbox hb; have BK202 := Aside0.mk (hbox); have GW202 := xG HB hg; have GE202 := xG HB hg; replace HB := xS HB hb; have NB201_202 := xN BK201 hg; have NB202_201 := xM BK201 hg; replace BK201 := xB BK201 hb; clear hb hbox hg; have hnb8 := NB202_201.out; have hnc8 := NB201_202.out; have hcz9_0 : w7.cell? ⟨gb202, 0, none⟩ = some (.int .i64 0) := b1 BK202 0; have hcz9_1 : w7.cell? ⟨gb202, 1, none⟩ = some (.int .i64 0) := b1 BK202 1; have hcz9_2 : w7.cell? ⟨gb202, 2, none⟩ = some (.int .i64 0) := b1 BK202 2; have hcz9_3 : w7.cell? ⟨gb202, 3, none⟩ = some (.slice none 0 0) := b1 BK202 3; have hfz9_0 := blk_frozen BK202.out 0; have hfz9_1 := blk_frozen BK202.out 1; have hfz9_2 := blk_frozen BK202.out 2; have hfz9_3 := blk_frozen BK202.out 3))
 (try simp only [Act.put, q3])
 go_cut [28] (fun v28 wc => ∃ (kq : Nat) (x28_4 : Bool), v28 = .bool x28_4 ∧ Aside0 (spec_AutoMake.j0 kq a0 a1 l3 x28_4 a0 a1 a2 = some (r1, r2, r3, r4, r5)) ∧ Aside0 (kq ≤ k) ∧ Aside0 (wc.heap[gb201]? = some (.cells #[.int .i64 0, .int .i64 0, .int .i64 0, (.slice none 0 0)] 24 (0, 0))) ∧ Aside0 (wc.heap[gb202]? = some (.cells #[.int .i64 a0, .int .i64 a1, .int .i64 a2, (.slice none 0 0)] 24 (0, 0))) ∧ Aside0 (Below w.heap.size w wc))
 case first =>
  have H := HC5.out; clear HC5; replace H := Option.bind_eq_some_iff.mp H; obtain ⟨t203, A100, H⟩ := H; replace H : (if t203 = true then (spec_AutoMake.j0 k a0 a1 l3 (decide ((l3.length : Int) > 2000)) a0 a1 a2) else (spec_AutoMake.j0 k a0 a1 l3 true a0 a1 a2)) = some (r1, r2, r3, r4, r5) := H; have A10 := Aside0.mk A100; clear A100
  by_cases c11 : t203 = true
  ·subst c11
   have H1 : (spec_AutoMake.j0 k a0 a1 l3 (decide ((l3.length : Int) > 2000)) a0 a1 a2) = some (r1, r2, r3, r4, r5) := by rw [if_pos rfl] at H; exact H
   clear H; have H := H1; clear H1; have H' := Aside0.mk H; clear H; have hnb12 := NB202_201.out; have hnc12 := NB201_202.out; have hcz13_0 : w7.cell? ⟨gb202, 0, none⟩ = some (.int .i64 0) := b1 BK202 0; have hcz13_1 : w7.cell? ⟨gb202, 1, none⟩ = some (.int .i64 0) := b1 BK202 1; have hcz13_2 : w7.cell? ⟨gb202, 2, none⟩ = some (.int .i64 0) := b1 BK202 2; have hcz13_3 : w7.cell? ⟨gb202, 3, none⟩ = some (.slice none 0 0) := b1 BK202 3; have hfz13_0 := blk_frozen BK202.out 0; have hfz13_1 := blk_frozen BK202.out 1; have hfz13_2 := blk_frozen BK202.out 2; have hfz13_3 := blk_frozen BK202.out 3
   go_wp2_with (first | ((with_reducible refine gate_callee (f := 20) rfl ?_); refine goesL_ (some 22) rfl rfl Try.func20 (by kernel_rfl) rfl #[.agg #[.int .i64 a0, .int .i64 a1, .int .i64 a2, .slice none 0 0]] rfl (by (try simp only [m3]); first | done | rfl | (simp only [d2]; rfl)) ?_; (refine (spec_AutoOk.calls k a0 a1 a2 none 0 ([] : List (S68)) true _ ?side1 ?side2 A10.out).mono ?_); (case side1 => exact Kd.C_nil _ _); (case side2 => exact Nat.le_refl _); rintro e w14 ⟨rfl, hb⟩; refine ⟨_, rfl, ?_⟩; replace BK201 := xB BK201 hb; replace BK202 := Aside0.mk (blk_below (g := gb202) (o := .cells #[.int .i64 a0, .int .i64 a1, .int .i64 a2, .slice none 0 0] 24 (0, 0)) (xP4 BK202.out) hb); replace HB := xS HB hb; (try clear hb); (try clear hb2); (try clear hk); (try clear hi)))
   go_meet
   case rel => exact ⟨_, (decide ((l3.length : Int) > 2000)), (by first | rfl | (simp; done) | (simp [*]; done) | (rw [Int.tmod_eq_emod_of_nonneg (Int.natCast_nonneg _)]; done)), H', ⟨by first | omega | exact Nat.le_refl _⟩, ⟨zB BK201.out⟩, ⟨zB BK202.out⟩, ⟨zS HB.out⟩⟩
  ·replace c11 := Bool.eq_false_iff.mpr c11; subst c11
   have H1 : (spec_AutoMake.j0 k a0 a1 l3 true a0 a1 a2) = some (r1, r2, r3, r4, r5) := by rw [if_neg (show ¬ (false = true) by decide)] at H; exact H
   clear H; have H := H1; clear H1; have H' := Aside0.mk H; clear H; have hnb15 := NB202_201.out; have hnc15 := NB201_202.out; have hcz16_0 : w7.cell? ⟨gb202, 0, none⟩ = some (.int .i64 0) := b1 BK202 0; have hcz16_1 : w7.cell? ⟨gb202, 1, none⟩ = some (.int .i64 0) := b1 BK202 1; have hcz16_2 : w7.cell? ⟨gb202, 2, none⟩ = some (.int .i64 0) := b1 BK202 2; have hcz16_3 : w7.cell? ⟨gb202, 3, none⟩ = some (.slice none 0 0) := b1 BK202 3; have hfz16_0 := blk_frozen BK202.out 0; have hfz16_1 := blk_frozen BK202.out 1; have hfz16_2 := blk_frozen BK202.out 2; have hfz16_3 := blk_frozen BK202.out 3
   go_wp2_with (first | ((with_reducible refine gate_callee (f := 20) rfl ?_); refine goesL_ (some 22) rfl rfl Try.func20 (by kernel_rfl) rfl #[.agg #[.int .i64 a0, .int .i64 a1, .int .i64 a2, .slice none 0 0]] rfl (by (try simp only [m3]); first | done | rfl | (simp only [d2]; rfl)) ?_; (refine (spec_AutoOk.calls k a0 a1 a2 none 0 ([] : List (S68)) false _ ?side1 ?side2 A10.out).mono ?_); (case side1 => exact Kd.C_nil _ _); (case side2 => exact Nat.le_refl _); rintro e w17 ⟨rfl, hb⟩; refine ⟨_, rfl, ?_⟩; replace BK201 := xB BK201 hb; replace BK202 := Aside0.mk (blk_below (g := gb202) (o := .cells #[.int .i64 a0, .int .i64 a1, .int .i64 a2, .slice none 0 0] 24 (0, 0)) (xP4 BK202.out) hb); replace HB := xS HB hb; (try clear hb); (try clear hb2); (try clear hk); (try clear hi)))
   go_meet
   case rel => exact ⟨_, (true), (by first | rfl | (simp; done) | (simp [*]; done) | (rw [Int.tmod_eq_emod_of_nonneg (Int.natCast_nonneg _)]; done)), H', ⟨by first | omega | exact Nat.le_refl _⟩, ⟨zB BK201.out⟩, ⟨zB BK202.out⟩, ⟨zS HB.out⟩⟩
 case rest =>
  clear HC5
  try clear c1
  try clear c2
  try clear p2
  try clear c3
  try clear c8
  try clear c11
  try clear c12
  try clear c15
  try clear hcz13_0
  try clear hcz13_1
  try clear hcz13_2
  try clear hcz13_3
  try clear hcz16_0
  try clear hcz16_1
  try clear hcz16_2
  try clear hcz16_3
  try clear hcz9_0
  try clear hcz9_1
  try clear hcz9_2
  try clear hcz9_3
  try clear hfz13_0
  try clear hfz13_1
  try clear hfz13_2
  try clear hfz13_3
  try clear hfz16_0
  try clear hfz16_1
  try clear hfz16_2
  try clear hfz16_3
  try clear hfz9_0
  try clear hfz9_1
  try clear hfz9_2
  try clear hfz9_3
  obtain ⟨kq, x28_4, rfl, HA, HJ4, BK201, BK202, HB⟩ := hcut
  cases kq with
  | zero => exact absurd HA.out (by simp [spec_AutoMake.j0])
  | succ kj4 =>
   have H := HA.out; clear HA; simp only [spec_AutoMake.j0] at H
   by_cases c18 : x28_4 = true
   ·subst c18
    have H1 : (some (0, 0, 0, ([] : List (S68)), false)) = some (r1, r2, r3, r4, r5) := by rw [if_pos rfl] at H; exact H
    clear H; have H := H1; clear H1; simp only [Option.some.injEq, Prod.mk.injEq] at H; obtain ⟨rfl, rfl, rfl, rfl, rfl⟩ := H; have hnb19 := NB201_202.out; have hnc19 := NB202_201.out; have hcz20_0 : wc.cell? ⟨gb201, 0, none⟩ = some (.int .i64 0) := b1 BK201 0; have hcz20_1 : wc.cell? ⟨gb201, 1, none⟩ = some (.int .i64 0) := b1 BK201 1; have hcz20_2 : wc.cell? ⟨gb201, 2, none⟩ = some (.int .i64 0) := b1 BK201 2; have hcz20_3 : wc.cell? ⟨gb201, 3, none⟩ = some (.slice none 0 0) := b1 BK201 3; have hfz20_0 := blk_frozen BK201.out 0; have hfz20_1 := blk_frozen BK201.out 1; have hfz20_2 := blk_frozen BK201.out 2; have hfz20_3 := blk_frozen BK201.out 3
    go_wp2
    refine bodyPost_ret (results_ct rfl _ _ gb201 24 #[.int .i64 0, .int .i64 0, .int .i64 0, .slice none 0 0] (0, 0) _ rfl (xP4 BK201.out) Try.underlying24 rfl (by kernel_rfl)) rfl ?_; exact ⟨_, by first | rfl | (simp [errW_none, errW_some] <;> rfl) | (simp [*, errW_none, errW_some] <;> rfl), by first | exact Kd.R_nil _ _ _ _ _ | exact Kd.N_nil _ _ _ _ _ | exact Kd.V_nil _ _ _ _ _ | exact Kd.Q_nil _ _ _ _ _ | exact Kd.S_nil _ _ _ _ _, by repeat (first | (with_reducible first | exact HB.out | apply below_alloc | apply pw_below_drewN | apply below_drew1 | refine below_set ?_ GE201.out | refine below_set ?_ GE202.out) | exact HB.out)⟩
   ·replace c18 := Bool.eq_false_iff.mpr c18; subst c18
    have H1 : (if 0 ≤ (wrap64 ((wrap64 (a1 * a0)) * a1)) then (if (wrap64 ((wrap64 (a1 * a0)) * a1) : Int).toNat ≤ 35184372088832 then (spec_AutoMake.l0 kj4 a0 a1 l3 (List.replicate (wrap64 ((wrap64 (a1 * a0)) * a1) : Int).toNat 0) 0 a0 a1 a2) else (none)) else (none)) = some (r1, r2, r3, r4, r5) := by rw [if_neg (show ¬ (false = true) by decide)] at H; exact H
    clear H; have H := H1; clear H1; obtain ⟨ji21, hji21⟩ : ∃ j_ : Int, (wrap64 ((wrap64 (a1 * a0)) * a1)) = j_ := ⟨_, rfl⟩
    replace H : (if 0 ≤ (ji21) then (if (ji21 : Int).toNat ≤ 35184372088832 then (spec_AutoMake.l0 kj4 a0 a1 l3 (List.replicate (ji21 : Int).toNat 0) 0 a0 a1 a2) else (none)) else (none)) = some (r1, r2, r3, r4, r5) := by first | (rw [hji21] at H; exact H) | (simp only [hji21] at H ⊢; exact H)
    have hji21w : (IntKind.i64.wrap ((wrap64 (a1 * a0)) * a1)) = ji21 := (i64_w _).trans hji21
    by_cases c22 : 0 ≤ (ji21)
    ·rw [if_pos c22] at H; have c22b0 := eq_true c22; have c22b1 : decide (0 ≤ (ji21)) = true := decide_eq_true c22; clear c22
     by_cases c23 : (ji21 : Int).toNat ≤ 35184372088832
     ·rw [if_pos c23] at H; have c23b0 := eq_true c23; have c23b1 : decide ((ji21 : Int).toNat ≤ 35184372088832) = true := decide_eq_true c23; clear c23; obtain ⟨y204, hy204⟩ : ∃ y_ : List Int, y_ = (List.replicate (ji21 : Int).toNat 0) := ⟨_, rfl⟩
      replace H : (spec_AutoMake.l0 kj4 a0 a1 l3 y204 0 a0 a1 a2) = some (r1, r2, r3, r4, r5) := by first | (rw [hy204]; with_reducible exact H) | (have H2_ := (Option.bind_some _ _).symm.trans H; rw [hy204]; with_reducible exact H2_) | (have H2_ := (Option.bind_some _ _).symm.trans H; with_reducible exact H2_) | with_reducible exact H | (rw [hy204]; exact H) | exact H
      have Ny204 := Aside0.mk hy204; clear hy204; have H' := Aside0.mk H; clear H
      go_wp2_with (first | ((with_reducible refine gate_dst (N := 35) rfl ?_); (try (refine gate_guard (by rfl) ?_; dsimp only)); refine Kd.R_make (Kd.int .i64) _ 3 rfl (N := 35) rfl 63 _ _ rfl ji21 rfl rfl Try.underlying63 (.int .i64 0) 8 info3 rfl (by decide) (by omega) 0 (ok := fun _ => True) (okp := fun _ => True) rfl (fun _ hk => hk) trivial (oD) (Nat.le_trans (Nat.mul_le_mul_right _ (oD : ji21.toNat ≤ 35184372088832)) (by omega)) (Below.refl _ _) (Nat.le_refl _) ?_; intro v205 w24 ho25 hb hg_ hnew_; clear hg_ hnew_; (first | rw [← Ny204.out] at ho25 | (simp only [Int.reduceToNat] at ho25; rw [← Ny204.out] at ho25)); have HO206 := Aside0.mk (Kd.R_lower ho25 (below_size (zS HB.out))); replace BK201 := xB BK201 hb; replace BK202 := xB BK202 hb; replace HB := xS HB hb; clear hb ho25))
      go_loopg [12] kj4 (fun kq v12 w' => ∃ (x11_2 : List Int) (x12_2 : Int) (x202000_2 : Int) (x202001_2 : Int) (x202002_2 : Int), v12 = .int .i64 x12_2 ∧ Aside0 (spec_AutoMake.l0 kq a0 a1 l3 x11_2 x12_2 a0 a1 a2 = some (r1, r2, r3, r4, r5)) ∧ Aside0 (kq ≤ kj4) ∧ Aside0 (Kd.R (Kd.int .i64) 3 w' w.heap.size (fun _ => True) v205 x11_2) ∧ Aside0 (w'.heap[gb201]? = some (.cells #[.int .i64 x202000_2, .int .i64 x202001_2, .int .i64 x202002_2, (.slice none 0 0)] 24 (0, 0))) ∧ Aside0 (w'.heap[gb202]? = some (.cells #[.int .i64 a0, .int .i64 a1, .int .i64 a2, (.slice none 0 0)] 24 (0, 0))) ∧ Aside0 (Below w.heap.size w w'))
      case atStart => exact ⟨(y204), (0), (0), (0), (0), (by first | rfl | (simp; done) | (simp [*]; done) | (rw [Int.tmod_eq_emod_of_nonneg (Int.natCast_nonneg _)]; done)), H', ⟨Nat.le_refl _⟩, ⟨zR HO206.out⟩, ⟨zB BK201.out⟩, ⟨zB BK202.out⟩, ⟨zS HB.out⟩⟩
      case round =>
       clear H'
       try clear c1
       try clear c2
       try clear p2
       try clear c3
       try clear p6
       try clear c8
       try clear c11
       try clear c12
       try clear c15
       try clear c18
       try clear c19
       try clear c20
       try clear c22
       try clear c22b0
       try clear c22b1
       try clear c23
       try clear c23b0
       try clear c23b1
       try clear hcz13_0
       try clear hcz13_1
       try clear hcz13_2
       try clear hcz13_3
       try clear hcz16_0
       try clear hcz16_1
       try clear hcz16_2
       try clear hcz16_3
       try clear hcz20_0
       try clear hcz20_1
       try clear hcz20_2
       try clear hcz20_3
       try clear hcz9_0
       try clear hcz9_1
       try clear hcz9_2
       try clear hcz9_3
       try clear hfz13_0
       try clear hfz13_1
       try clear hfz13_2
       try clear hfz13_3
       try clear hfz16_0
       try clear hfz16_1
       try clear hfz16_2
       try clear hfz16_3
       try clear hfz20_0
       try clear hfz20_1
       try clear hfz20_2
       try clear hfz20_3
       try clear hfz9_0
       try clear hfz9_1
       try clear hfz9_2
       try clear hfz9_3
       try clear p2
       obtain ⟨x11_2, x12_2, x202000_2, x202001_2, x202002_2, rfl, HA, HK2, HO_11, BK201, BK202, HB⟩ := hrel
       cases gk with
       | zero => exact absurd HA.out (by simp [spec_AutoMake.l0])
       | succ k2 =>
        have H := HA.out; clear HA; simp only [spec_AutoMake.l0] at H
        by_cases c26 : x12_2 < (l3.length : Int)
        ·rw [if_pos c26] at H; have c26b0 : decide (x12_2 < (l3.length : Int)) = true := decide_eq_true c26; clear c26
         by_cases c27 : 0 ≤ x12_2
         ·rw [if_pos c27] at H; have c27b0 : decide (0 ≤ x12_2) = true := decide_eq_true c27; clear c27; have HC28 := Aside0.mk H; clear H; have p207 : 0 ≤ (x12_2 : Int) := oD; have q207 : x12_2 < (l3.length : Int) := oD; obtain ⟨ad207, e207, hx207_0, hx207_1, hx207_2, hx207_3⟩ := at_T68 HR3.out x12_2 p207 q207
          cases e207
          replace hx207_0 := cT HB hx207_0; replace hx207_1 := cT HB hx207_1; replace hx207_2 := cT HB hx207_2; replace hx207_3 := cT HB hx207_3; replace p207 := eq_true p207; replace q207 := eq_true q207
          go_upto_region 9 with (first | ((with_reducible refine gate_dst (N := 13) rfl ?_); (try (refine gate_guard (by rfl) ?_; dsimp only)); refine box_event ?hg (N := 13) ?hd (cs := #[.int .i64 0, .int .i64 0, .int .i64 0, .bool false]) (t := 68) ?hr ?_; (case hd => rfl); (case hg => rfl); (case hr => first | (go_simp; done) | (go_simp; rfl)); intro gb208 hg w29 hbox hb; replace HO_11 := xR HO_11 hb; have BK208 := Aside0.mk (hbox); have GW208 := xG HB hg; have GE208 := xG HB hg; replace HB := xS HB hb; have NB201_208 := xN BK201 hg; have NB208_201 := xM BK201 hg; replace BK201 := xB BK201 hb; have NB202_208 := xN BK202 hg; have NB208_202 := xM BK202 hg; replace BK202 := xB BK202 hb; clear hb hbox hg; have hnb30 := NB208_201.out; have hnc30 := NB201_208.out; have hnb31 := NB208_202.out; have hnc31 := NB202_208.out; have hcz32_0 : w29.cell? ⟨gb208, 0, none⟩ = some (.int .i64 0) := b1 BK208 0; have hcz32_1 : w29.cell? ⟨gb208, 1, none⟩ = some (.int .i64 0) := b1 BK208 1; have hcz32_2 : w29.cell? ⟨gb208, 2, none⟩ = some (.int .i64 0) := b1 BK208 2; have hcz32_3 : w29.cell? ⟨gb208, 3, none⟩ = some (.bool false) := b1 BK208 3; have hfz32_0 := blk_frozen BK208.out 0; have hfz32_1 := blk_frozen BK208.out 1; have hfz32_2 := blk_frozen BK208.out 2; have hfz32_3 := blk_frozen BK208.out 3))
          (try simp only [Act.put, q3])
          go_cut [65] (fun v65 wc => ∃ (kq : Nat) (x65_27 : Bool), v65 = .bool x65_27 ∧ Aside0 (spec_AutoMake.j2 kq a0 a1 l3 x11_2 x12_2 x65_27 a0 a1 a2 ((rd_T68 l3 x12_2).f0) ((rd_T68 l3 x12_2).f1) ((rd_T68 l3 x12_2).f2) ((rd_T68 l3 x12_2).f3) = some (r1, r2, r3, r4, r5)) ∧ Aside0 (kq ≤ k2) ∧ Aside0 (Kd.R (Kd.int .i64) 3 wc w.heap.size (fun _ => True) v205 x11_2) ∧ Aside0 (wc.heap[gb201]? = some (.cells #[.int .i64 x202000_2, .int .i64 x202001_2, .int .i64 x202002_2, (.slice none 0 0)] 24 (0, 0))) ∧ Aside0 (wc.heap[gb202]? = some (.cells #[.int .i64 a0, .int .i64 a1, .int .i64 a2, (.slice none 0 0)] 24 (0, 0))) ∧ Aside0 (wc.heap[gb208]? = some (.cells #[.int .i64 ((rd_T68 l3 x12_2).f0), .int .i64 ((rd_T68 l3 x12_2).f1), .int .i64 ((rd_T68 l3 x12_2).f2), .bool ((rd_T68 l3 x12_2).f3)] 68 (0, 0))) ∧ Aside0 (Below w.heap.size w wc))
          case first =>
           have H := HC28.out; clear HC28; replace H := Option.bind_eq_some_iff.mp H; obtain ⟨t209, A330, H⟩ := H; replace H : (if t209 = true then ((spec_l4State.f ((rd_T68 l3 x12_2).f2) a1).bind fun t210 => (if t210 = true then ((spec_l1In.f ((rd_T68 l3 x12_2).f1) 0 (wrap64 (a0 - 1))).bind fun t211 => (spec_AutoMake.j2 k2 a0 a1 l3 x11_2 x12_2 (!t211) a0 a1 a2 ((rd_T68 l3 x12_2).f0) ((rd_T68 l3 x12_2).f1) ((rd_T68 l3 x12_2).f2) ((rd_T68 l3 x12_2).f3))) else (spec_AutoMake.j2 k2 a0 a1 l3 x11_2 x12_2 true a0 a1 a2 ((rd_T68 l3 x12_2).f0) ((rd_T68 l3 x12_2).f1) ((rd_T68 l3 x12_2).f2) ((rd_T68 l3 x12_2).f3)))) else (spec_AutoMake.j2 k2 a0 a1 l3 x11_2 x12_2 true a0 a1 a2 ((rd_T68 l3 x12_2).f0) ((rd_T68 l3 x12_2).f1) ((rd_T68 l3 x12_2).f2) ((rd_T68 l3 x12_2).f3))) = some (r1, r2, r3, r4, r5) := H; have A33 := Aside0.mk A330; clear A330
           by_cases c34 : t209 = true
           ·subst c34
            have H1 : ((spec_l4State.f ((rd_T68 l3 x12_2).f2) a1).bind fun t210 => (if t210 = true then ((spec_l1In.f ((rd_T68 l3 x12_2).f1) 0 (wrap64 (a0 - 1))).bind fun t211 => (spec_AutoMake.j2 k2 a0 a1 l3 x11_2 x12_2 (!t211) a0 a1 a2 ((rd_T68 l3 x12_2).f0) ((rd_T68 l3 x12_2).f1) ((rd_T68 l3 x12_2).f2) ((rd_T68 l3 x12_2).f3))) else (spec_AutoMake.j2 k2 a0 a1 l3 x11_2 x12_2 true a0 a1 a2 ((rd_T68 l3 x12_2).f0) ((rd_T68 l3 x12_2).f1) ((rd_T68 l3 x12_2).f2) ((rd_T68 l3 x12_2).f3)))) = some (r1, r2, r3, r4, r5) := by rw [if_pos rfl] at H; exact H
            clear H; have H := H1; clear H1; replace H := Option.bind_eq_some_iff.mp H; obtain ⟨t210, A350, H⟩ := H; replace H : (if t210 = true then ((spec_l1In.f ((rd_T68 l3 x12_2).f1) 0 (wrap64 (a0 - 1))).bind fun t211 => (spec_AutoMake.j2 k2 a0 a1 l3 x11_2 x12_2 (!t211) a0 a1 a2 ((rd_T68 l3 x12_2).f0) ((rd_T68 l3 x12_2).f1) ((rd_T68 l3 x12_2).f2) ((rd_T68 l3 x12_2).f3))) else (spec_AutoMake.j2 k2 a0 a1 l3 x11_2 x12_2 true a0 a1 a2 ((rd_T68 l3 x12_2).f0) ((rd_T68 l3 x12_2).f1) ((rd_T68 l3 x12_2).f2) ((rd_T68 l3 x12_2).f3))) = some (r1, r2, r3, r4, r5) := H; have A35 := Aside0.mk A350; clear A350
            by_cases c36 : t210 = true
            ·subst c36
             have H1 : ((spec_l1In.f ((rd_T68 l3 x12_2).f1) 0 (wrap64 (a0 - 1))).bind fun t211 => (spec_AutoMake.j2 k2 a0 a1 l3 x11_2 x12_2 (!t211) a0 a1 a2 ((rd_T68 l3 x12_2).f0) ((rd_T68 l3 x12_2).f1) ((rd_T68 l3 x12_2).f2) ((rd_T68 l3 x12_2).f3))) = some (r1, r2, r3, r4, r5) := by rw [if_pos rfl] at H; exact H
             clear H; have H := H1; clear H1; replace H := Option.bind_eq_some_iff.mp H; obtain ⟨t211, A370, H⟩ := H; replace H : (spec_AutoMake.j2 k2 a0 a1 l3 x11_2 x12_2 (!t211) a0 a1 a2 ((rd_T68 l3 x12_2).f0) ((rd_T68 l3 x12_2).f1) ((rd_T68 l3 x12_2).f2) ((rd_T68 l3 x12_2).f3)) = some (r1, r2, r3, r4, r5) := H; have A37 := Aside0.mk A370; clear A370; have H' := Aside0.mk H; clear H; have hnb38 := NB208_201.out; have hnc38 := NB201_208.out; have hnb39 := NB208_202.out; have hnc39 := NB202_208.out; have hcz40_0 : w29.cell? ⟨gb208, 0, none⟩ = some (.int .i64 0) := b1 BK208 0; have hcz40_1 : w29.cell? ⟨gb208, 1, none⟩ = some (.int .i64 0) := b1 BK208 1; have hcz40_2 : w29.cell? ⟨gb208, 2, none⟩ = some (.int .i64 0) := b1 BK208 2; have hcz40_3 : w29.cell? ⟨gb208, 3, none⟩ = some (.bool false) := b1 BK208 3; have hfz40_0 := blk_frozen BK208.out 0; have hfz40_1 := blk_frozen BK208.out 1; have hfz40_2 := blk_frozen BK208.out 2; have hfz40_3 := blk_frozen BK208.out 3
             go_wp2_with (first | ((with_reducible refine gate_callee (f := 65) rfl ?_); refine goesL_ (some 49) rfl rfl Try.func65 (by kernel_rfl) rfl #[.int .i64 ((rd_T68 l3 x12_2).f0), .int .i64 a1] rfl (by (try simp only [m3]); first | done | rfl | (simp only [d2]; rfl)) ?_; (with_reducible refine (spec_l4State.calls ((rd_T68 l3 x12_2).f0) a1 true _ A33.out).mono ?_); rintro e w' ⟨rfl, ⟨nd, rfl⟩⟩; refine ⟨_, rfl, ?_⟩) | (go_at_call 65; (with_reducible refine (spec_l4State.calls ((rd_T68 l3 x12_2).f2) a1 true _ A35.out).mono ?_); rintro e w' ⟨rfl, ⟨nd, rfl⟩⟩) | (go_at_call 58; (with_reducible refine (spec_l1In.calls ((rd_T68 l3 x12_2).f1) 0 (wrap64 (a0 - 1)) t211 _ A37.out).mono ?_); rintro e w' ⟨rfl, ⟨nd, rfl⟩⟩))
             (first | go_meet | ((try simp only [← hji21]); go_meet))
             case rel => exact ⟨_, (!t211), (by first | rfl | (simp; done) | (simp [*]; done) | (rw [Int.tmod_eq_emod_of_nonneg (Int.natCast_nonneg _)]; done)), (by first | exact H' | (have h_ := H'; (try simp only [← hji21] at h_); (try simp only [← hji21]); exact h_)), ⟨by have := HJ4.out; have := HK2.out; first | omega | exact Nat.le_refl _⟩, ⟨by (with_reducible repeat (first | apply Kd.R_alloc | apply Kd.R_drewN | apply Kd.R_drew)); exact Kd.R_mono (Kd.R_far (p := ⟨gb208, 3, none⟩) (Kd.R_far (p := ⟨gb208, 2, none⟩) (Kd.R_far (p := ⟨gb208, 1, none⟩) (Kd.R_far (p := ⟨gb208, 0, none⟩) (Kd.R_types HO_11.out BK208.out (by decide)) (fun _ hk => hk.2) (.int .i64 ((rd_T68 l3 x12_2).f0))) (fun _ hk => hk.2) (.int .i64 ((rd_T68 l3 x12_2).f1))) (fun _ hk => hk.2) (.int .i64 ((rd_T68 l3 x12_2).f2))) (fun _ hk => hk.2) (.bool ((rd_T68 l3 x12_2).f3))) (fun _ hk => trivial)⟩, ⟨zB BK201.out⟩, ⟨zB BK202.out⟩, ⟨by (with_reducible repeat (first | refine blk_drewN ?_ _ | refine blk_drew ?_ | refine blk_alloc ?_ _)); refine blk_put (cs := #[.int .i64 ((rd_T68 l3 x12_2).f0), .int .i64 ((rd_T68 l3 x12_2).f1), .int .i64 ((rd_T68 l3 x12_2).f2), .bool false]) ?_ 3 _ rfl; (with_reducible repeat (first | refine blk_drewN ?_ _ | refine blk_drew ?_ | refine blk_alloc ?_ _)); refine blk_put (cs := #[.int .i64 ((rd_T68 l3 x12_2).f0), .int .i64 ((rd_T68 l3 x12_2).f1), .int .i64 0, .bool false]) ?_ 2 _ rfl; (with_reducible repeat (first | refine blk_drewN ?_ _ | refine blk_drew ?_ | refine blk_alloc ?_ _)); refine blk_put (cs := #[.int .i64 ((rd_T68 l3 x12_2).f0), .int .i64 0, .int .i64 0, .bool false]) ?_ 1 _ rfl; (with_reducible repeat (first | refine blk_drewN ?_ _ | refine blk_drew ?_ | refine blk_alloc ?_ _)); refine blk_put (cs := #[.int .i64 0, .int .i64 0, .int .i64 0, .bool false]) ?_ 0 _ rfl; (with_reducible repeat (first | refine blk_drewN ?_ _ | refine blk_drew ?_ | refine blk_alloc ?_ _)); exact BK208.out⟩, ⟨zS HB.out⟩⟩
            ·replace c36 := Bool.eq_false_iff.mpr c36; subst c36
             have H1 : (spec_AutoMake.j2 k2 a0 a1 l3 x11_2 x12_2 true a0 a1 a2 ((rd_T68 l3 x12_2).f0) ((rd_T68 l3 x12_2).f1) ((rd_T68 l3 x12_2).f2) ((rd_T68 l3 x12_2).f3)) = some (r1, r2, r3, r4, r5) := by rw [if_neg (show ¬ (false = true) by decide)] at H; exact H
             clear H; have H := H1; clear H1; have H' := Aside0.mk H; clear H; have hnb41 := NB208_201.out; have hnc41 := NB201_208.out; have hnb42 := NB208_202.out; have hnc42 := NB202_208.out; have hcz43_0 : w29.cell? ⟨gb208, 0, none⟩ = some (.int .i64 0) := b1 BK208 0; have hcz43_1 : w29.cell? ⟨gb208, 1, none⟩ = some (.int .i64 0) := b1 BK208 1; have hcz43_2 : w29.cell? ⟨gb208, 2, none⟩ = some (.int .i64 0) := b1 BK208 2; have hcz43_3 : w29.cell? ⟨gb208, 3, none⟩ = some (.bool false) := b1 BK208 3; have hfz43_0 := blk_frozen BK208.out 0; have hfz43_1 := blk_frozen BK208.out 1; have hfz43_2 := blk_frozen BK208.out 2; have hfz43_3 := blk_frozen BK208.out 3
             go_wp2_with (first | ((with_reducible refine gate_callee (f := 65) rfl ?_); refine goesL_ (some 49) rfl rfl Try.func65 (by kernel_rfl) rfl #[.int .i64 ((rd_T68 l3 x12_2).f0), .int .i64 a1] rfl (by (try simp only [m3]); first | done | rfl | (simp only [d2]; rfl)) ?_; (with_reducible refine (spec_l4State.calls ((rd_T68 l3 x12_2).f0) a1 true _ A33.out).mono ?_); rintro e w' ⟨rfl, ⟨nd, rfl⟩⟩; refine ⟨_, rfl, ?_⟩) | (go_at_call 65; (with_reducible refine (spec_l4State.calls ((rd_T68 l3 x12_2).f2) a1 false _ A35.out).mono ?_); rintro e w' ⟨rfl, ⟨nd, rfl⟩⟩))
             (first | go_meet | ((try simp only [← hji21]); go_meet))
             case rel => exact ⟨_, (true), (by first | rfl | (simp; done) | (simp [*]; done) | (rw [Int.tmod_eq_emod_of_nonneg (Int.natCast_nonneg _)]; done)), (by first | exact H' | (have h_ := H'; (try simp only [← hji21] at h_); (try simp only [← hji21]); exact h_)), ⟨by have := HJ4.out; have := HK2.out; first | omega | exact Nat.le_refl _⟩, ⟨by (with_reducible repeat (first | apply Kd.R_alloc | apply Kd.R_drewN | apply Kd.R_drew)); exact Kd.R_mono (Kd.R_far (p := ⟨gb208, 3, none⟩) (Kd.R_far (p := ⟨gb208, 2, none⟩) (Kd.R_far (p := ⟨gb208, 1, none⟩) (Kd.R_far (p := ⟨gb208, 0, none⟩) (Kd.R_types HO_11.out BK208.out (by decide)) (fun _ hk => hk.2) (.int .i64 ((rd_T68 l3 x12_2).f0))) (fun _ hk => hk.2) (.int .i64 ((rd_T68 l3 x12_2).f1))) (fun _ hk => hk.2) (.int .i64 ((rd_T68 l3 x12_2).f2))) (fun _ hk => hk.2) (.bool ((rd_T68 l3 x12_2).f3))) (fun _ hk => trivial)⟩, ⟨zB BK201.out⟩, ⟨zB BK202.out⟩, ⟨by (with_reducible repeat (first | refine blk_drewN ?_ _ | refine blk_drew ?_ | refine blk_alloc ?_ _)); refine blk_put (cs := #[.int .i64 ((rd_T68 l3 x12_2).f0), .int .i64 ((rd_T68 l3 x12_2).f1), .int .i64 ((rd_T68 l3 x12_2).f2), .bool false]) ?_ 3 _ rfl; (with_reducible repeat (first | refine blk_drewN ?_ _ | refine blk_drew ?_ | refine blk_alloc ?_ _)); refine blk_put (cs := #[.int .i64 ((rd_T68 l3 x12_2).f0), .int .i64 ((rd_T68 l3 x12_2).f1), .int .i64 0, .bool false]) ?_ 2 _ rfl; (with_reducible repeat (first | refine blk_drewN ?_ _ | refine blk_drew ?_ | refine blk_alloc ?_ _)); refine blk_put (cs := #[.int .i64 ((rd_T68 l3 x12_2).f0), .int .i64 0, .int .i64 0, .bool false]) ?_ 1 _ rfl; (with_reducible repeat (first | refine blk_drewN ?_ _ | refine blk_drew ?_ | refine blk_alloc ?_ _)); refine blk_put (cs := #[.int .i64 0, .int .i64 0, .int .i64 0, .bool false]) ?_ 0 _ rfl; (with_reducible repeat (first | refine blk_drewN ?_ _ | refine blk_drew ?_ | refine blk_alloc ?_ _)); exact BK208.out⟩, ⟨zS HB.out⟩⟩
           ·replace c34 := Bool.eq_false_iff.mpr c34; subst c34
            have H1 : (spec_AutoMake.j2 k2 a0 a1 l3 x11_2 x12_2 true a0 a1 a2 ((rd_T68 l3 x12_2).f0) ((rd_T68 l3 x12_2).f1) ((rd_T68 l3 x12_2).f2) ((rd_T68 l3 x12_2).f3)) = some (r1, r2, r3, r4, r5) := by rw [if_neg (show ¬ (false = true) by decide)] at H; exact H
            clear H; have H := H1; clear H1; have H' := Aside0.mk H; clear H; have hnb44 := NB208_201.out; have hnc44 := NB201_208.out; have hnb45 := NB208_202.out; have hnc45 := NB202_208.out; have hcz46_0 : w29.cell? ⟨gb208, 0, none⟩ = some (.int .i64 0) := b1 BK208 0; have hcz46_1 : w29.cell? ⟨gb208, 1, none⟩ = some (.int .i64 0) := b1 BK208 1; have hcz46_2 : w29.cell? ⟨gb208, 2, none⟩ = some (.int .i64 0) := b1 BK208 2; have hcz46_3 : w29.cell? ⟨gb208, 3, none⟩ = some (.bool false) := b1 BK208 3; have hfz46_0 := blk_frozen BK208.out 0; have hfz46_1 := blk_frozen BK208.out 1; have hfz46_2 := blk_frozen BK208.out 2; have hfz46_3 := blk_frozen BK208.out 3
            go_wp2_with (first | ((with_reducible refine gate_callee (f := 65) rfl ?_); refine goesL_ (some 49) rfl rfl Try.func65 (by kernel_rfl) rfl #[.int .i64 ((rd_T68 l3 x12_2).f0), .int .i64 a1] rfl (by (try simp only [m3]); first | done | rfl | (simp only [d2]; rfl)) ?_; (with_reducible refine (spec_l4State.calls ((rd_T68 l3 x12_2).f0) a1 false _ A33.out).mono ?_); rintro e w' ⟨rfl, ⟨nd, rfl⟩⟩; refine ⟨_, rfl, ?_⟩))
            (first | go_meet | ((try simp only [← hji21]); go_meet))
            case rel => exact ⟨_, (true), (by first | rfl | (simp; done) | (simp [*]; done) | (rw [Int.tmod_eq_emod_of_nonneg (Int.natCast_nonneg _)]; done)), (by first | exact H' | (have h_ := H'; (try simp only [← hji21] at h_); (try simp only [← hji21]); exact h_)), ⟨by have := HJ4.out; have := HK2.out; first | omega | exact Nat.le_refl _⟩, ⟨by (with_reducible repeat (first | apply Kd.R_alloc | apply Kd.R_drewN | apply Kd.R_drew)); exact Kd.R_mono (Kd.R_far (p := ⟨gb208, 3, none⟩) (Kd.R_far (p := ⟨gb208, 2, none⟩) (Kd.R_far (p := ⟨gb208, 1, none⟩) (Kd.R_far (p := ⟨gb208, 0, none⟩) (Kd.R_types HO_11.out BK208.out (by decide)) (fun _ hk => hk.2) (.int .i64 ((rd_T68 l3 x12_2).f0))) (fun _ hk => hk.2) (.int .i64 ((rd_T68 l3 x12_2).f1))) (fun _ hk => hk.2) (.int .i64 ((rd_T68 l3 x12_2).f2))) (fun _ hk => hk.2) (.bool ((rd_T68 l3 x12_2).f3))) (fun _ hk => trivial)⟩, ⟨zB BK201.out⟩, ⟨zB BK202.out⟩, ⟨by (with_reducible repeat (first | refine blk_drewN ?_ _ | refine blk_drew ?_ | refine blk_alloc ?_ _)); refine blk_put (cs := #[.int .i64 ((rd_T68 l3 x12_2).f0), .int .i64 ((rd_T68 l3 x12_2).f1), .int .i64 ((rd_T68 l3 x12_2).f2), .bool false]) ?_ 3 _ rfl; (with_reducible repeat (first | refine blk_drewN ?_ _ | refine blk_drew ?_ | refine blk_alloc ?_ _)); refine blk_put (cs := #[.int .i64 ((rd_T68 l3 x12_2).f0), .int .i64 ((rd_T68 l3 x12_2).f1), .int .i64 0, .bool false]) ?_ 2 _ rfl; (with_reducible repeat (first | refine blk_drewN ?_ _ | refine blk_drew ?_ | refine blk_alloc ?_ _)); refine blk_put (cs := #[.int .i64 ((rd_T68 l3 x12_2).f0), .int .i64 0, .int .i64 0, .bool false]) ?_ 1 _ rfl; (with_reducible repeat (first | refine blk_drewN ?_ _ | refine blk_drew ?_ | refine blk_alloc ?_ _)); refine blk_put (cs := #[.int .i64 0, .int .i64 0, .int .i64 0, .bool false]) ?_ 0 _ rfl; (with_reducible repeat (first | refine blk_drewN ?_ _ | refine blk_drew ?_ | refine blk_alloc ?_ _)); exact BK208.out⟩, ⟨zS HB.out⟩⟩
          case rest =>
           clear HC28
           try clear c1
           try clear c2
           try clear p2
           try clear q2
           try clear hx2
           try clear c3
           try clear c4
           try clear c6
           try clear p6
           try clear c8
           try clear c11
           try clear c12
           try clear c15
           try clear c18
           try clear c19
           try clear c20
           try clear p20
           try clear q20
           try clear hx20
           try clear c22
           try clear c22b0
           try clear c22b1
           try clear c23
           try clear c23b0
           try clear c23b1
           try clear c26
           try clear c26b0
           try clear c27
           try clear c27b0
           try clear c30
           try clear c31
           try clear c34
           try clear c36
           try clear c38
           try clear c39
           try clear c41
           try clear c42
           try clear c44
           try clear c45
           try clear hcz13_0
           try clear hcz13_1
           try clear hcz13_2
           try clear hcz13_3
           try clear hcz16_0
           try clear hcz16_1
           try clear hcz16_2
           try clear hcz16_3
           try clear hcz20_0
           try clear hcz20_1
           try clear hcz20_2
           try clear hcz20_3
           try clear hcz32_0
           try clear hcz32_1
           try clear hcz32_2
           try clear hcz32_3
           try clear hcz40_0
           try clear hcz40_1
           try clear hcz40_2
           try clear hcz40_3
           try clear hcz43_0
           try clear hcz43_1
           try clear hcz43_2
           try clear hcz43_3
           try clear hcz46_0
           try clear hcz46_1
           try clear hcz46_2
           try clear hcz46_3
           try clear hcz9_0
           try clear hcz9_1
           try clear hcz9_2
           try clear hcz9_3
           try clear hfz13_0
           try clear hfz13_1
           try clear hfz13_2
           try clear hfz13_3
           try clear hfz16_0
           try clear hfz16_1
           try clear hfz16_2
           try clear hfz16_3
           try clear hfz20_0
           try clear hfz20_1
           try clear hfz20_2
           try clear hfz20_3
           try clear hfz32_0
           try clear hfz32_1
           try clear hfz32_2
           try clear hfz32_3
           try clear hfz40_0
           try clear hfz40_1
           try clear hfz40_2
           try clear hfz40_3
           try clear hfz43_0
           try clear hfz43_1
           try clear hfz43_2
           try clear hfz43_3
           try clear hfz46_0
           try clear hfz46_1
           try clear hfz46_2
           try clear hfz46_3
           try clear hfz9_0
           try clear hfz9_1
           try clear hfz9_2
           try clear hfz9_3
           try clear hx207_0
           try clear hx207_1
           try clear hx207_2
           try clear hx207_3
           try clear p2
           try clear p207
           try clear p6
           try clear q207
           obtain ⟨kq, x65_27, rfl, HA, HJ27, HO_11, BK201, BK202, BK208, HB⟩ := hcut
           cases kq with
           | zero => exact absurd HA.out (by simp [spec_AutoMake.j2])
           | succ kj27 =>
            have H := HA.out; clear HA; simp only [spec_AutoMake.j2] at H
            by_cases c47 : x65_27 = true
            ·subst c47
             have H1 : (some (0, 0, 0, ([] : List (S68)), false)) = some (r1, r2, r3, r4, r5) := by rw [if_pos rfl] at H; exact H
             clear H; have H := H1; clear H1; simp only [Option.some.injEq, Prod.mk.injEq] at H; obtain ⟨rfl, rfl, rfl, rfl, rfl⟩ := H; have hnb48 := NB201_202.out; have hnc48 := NB202_201.out; have hnb49 := NB201_208.out; have hnc49 := NB208_201.out; have hcz50_0 : wc.cell? ⟨gb201, 0, none⟩ = some (.int .i64 x202000_2) := b1 BK201 0; have hcz50_1 : wc.cell? ⟨gb201, 1, none⟩ = some (.int .i64 x202001_2) := b1 BK201 1; have hcz50_2 : wc.cell? ⟨gb201, 2, none⟩ = some (.int .i64 x202002_2) := b1 BK201 2; have hcz50_3 : wc.cell? ⟨gb201, 3, none⟩ = some (.slice none 0 0) := b1 BK201 3; have hfz50_0 := blk_frozen BK201.out 0; have hfz50_1 := blk_frozen BK201.out 1; have hfz50_2 := blk_frozen BK201.out 2; have hfz50_3 := blk_frozen BK201.out 3
             go_wp2
             refine bodyPost_ret (results_ct rfl _ _ gb201 24 #[.int .i64 0, .int .i64 0, .int .i64 0, .slice none 0 0] (0, 0) _ rfl (xP4 BK201.out) Try.underlying24 rfl (by kernel_rfl)) rfl ?_; exact ⟨_, by first | rfl | (simp [errW_none, errW_some] <;> rfl) | (simp only [← hji21]; first | rfl | (simp [errW_none, errW_some] <;> rfl)) | (simp [*, errW_none, errW_some] <;> rfl), by first | exact Kd.R_nil _ _ _ _ _ | exact Kd.N_nil _ _ _ _ _ | exact Kd.V_nil _ _ _ _ _ | exact Kd.Q_nil _ _ _ _ _ | exact Kd.S_nil _ _ _ _ _, by repeat (first | (with_reducible first | exact HB.out | apply below_alloc | apply pw_below_drewN | apply below_drew1 | refine below_set ?_ GE201.out | refine below_set ?_ GE202.out | refine below_set ?_ GE208.out) | exact HB.out)⟩
            ·replace c47 := Bool.eq_false_iff.mpr c47; subst c47
             have H1 : (if ((rd_T68 l3 x12_2).f3) = true then (if 0 ≤ (wrap64 ((wrap64 ((wrap64 ((wrap64 (((rd_T68 l3 x12_2).f0) * a0)) + ((rd_T68 l3 x12_2).f1))) * a1)) + ((rd_T68 l3 x12_2).f2))) then (if (wrap64 ((wrap64 ((wrap64 ((wrap64 (((rd_T68 l3 x12_2).f0) * a0)) + ((rd_T68 l3 x12_2).f1))) * a1)) + ((rd_T68 l3 x12_2).f2))) < (x11_2.length : Int) then ((spec_l1Max.f (rd x11_2 (wrap64 ((wrap64 ((wrap64 ((wrap64 (((rd_T68 l3 x12_2).f0) * a0)) + ((rd_T68 l3 x12_2).f1))) * a1)) + ((rd_T68 l3 x12_2).f2)))) 2).bind fun t213 => (spec_AutoMake.l0 kj27 a0 a1 l3 (x11_2.set ((wrap64 ((wrap64 ((wrap64 ((wrap64 (((rd_T68 l3 x12_2).f0) * a0)) + ((rd_T68 l3 x12_2).f1))) * a1)) + ((rd_T68 l3 x12_2).f2))) : Int).toNat t213) (wrap64 (x12_2 + 1)) a0 a1 a2)) else (none)) else (none)) else (if 0 ≤ (wrap64 ((wrap64 ((wrap64 ((wrap64 (((rd_T68 l3 x12_2).f0) * a0)) + ((rd_T68 l3 x12_2).f1))) * a1)) + ((rd_T68 l3 x12_2).f2))) then (if (wrap64 ((wrap64 ((wrap64 ((wrap64 (((rd_T68 l3 x12_2).f0) * a0)) + ((rd_T68 l3 x12_2).f1))) * a1)) + ((rd_T68 l3 x12_2).f2))) < (x11_2.length : Int) then ((spec_l1Max.f (rd x11_2 (wrap64 ((wrap64 ((wrap64 ((wrap64 (((rd_T68 l3 x12_2).f0) * a0)) + ((rd_T68 l3 x12_2).f1))) * a1)) + ((rd_T68 l3 x12_2).f2)))) 1).bind fun t216 => (spec_AutoMake.l0 kj27 a0 a1 l3 (x11_2.set ((wrap64 ((wrap64 ((wrap64 ((wrap64 (((rd_T68 l3 x12_2).f0) * a0)) + ((rd_T68 l3 x12_2).f1))) * a1)) + ((rd_T68 l3 x12_2).f2))) : Int).toNat t216) (wrap64 (x12_2 + 1)) a0 a1 a2)) else (none)) else (none))) = some (r1, r2, r3, r4, r5) := by rw [if_neg (show ¬ (false = true) by decide)] at H; exact H
             clear H; have H := H1; clear H1
             by_cases c51 : ((rd_T68 l3 x12_2).f3) = true
             ·rw [if_pos c51] at H; have c51b0 : ((rd_T68 l3 x12_2).f3) = true := c51; clear c51; obtain ⟨ji52, hji52⟩ : ∃ j_ : Int, (wrap64 ((wrap64 ((wrap64 ((wrap64 (((rd_T68 l3 x12_2).f0) * a0)) + ((rd_T68 l3 x12_2).f1))) * a1)) + ((rd_T68 l3 x12_2).f2))) = j_ := ⟨_, rfl⟩
              replace H : (if 0 ≤ (ji52) then (if (ji52) < (x11_2.length : Int) then ((spec_l1Max.f (rd x11_2 (ji52)) 2).bind fun t213 => (spec_AutoMake.l0 kj27 a0 a1 l3 (x11_2.set ((ji52) : Int).toNat t213) (wrap64 (x12_2 + 1)) a0 a1 a2)) else (none)) else (none)) = some (r1, r2, r3, r4, r5) := by first | (rw [hji52] at H; exact H) | (simp only [hji52] at H ⊢; exact H)
              have hji52w : (IntKind.i64.wrap ((wrap64 ((wrap64 ((wrap64 (((rd_T68 l3 x12_2).f0) * a0)) + ((rd_T68 l3 x12_2).f1))) * a1)) + ((rd_T68 l3 x12_2).f2))) = ji52 := (i64_w _).trans hji52
              by_cases c53 : 0 ≤ (ji52)
              ·rw [if_pos c53] at H; have c53b0 : decide (0 ≤ (ji52)) = true := decide_eq_true c53; clear c53
               by_cases c54 : (ji52) < (x11_2.length : Int)
               ·rw [if_pos c54] at H; have c54b0 : decide ((ji52) < (x11_2.length : Int)) = true := decide_eq_true c54; clear c54; replace H := Option.bind_eq_some_iff.mp H; obtain ⟨t213, A550, H⟩ := H; replace H : (spec_AutoMake.l0 kj27 a0 a1 l3 (x11_2.set ((ji52) : Int).toNat t213) (wrap64 (x12_2 + 1)) a0 a1 a2) = some (r1, r2, r3, r4, r5) := H; have A55 := Aside0.mk A550; clear A550; obtain ⟨y214, hy214⟩ : ∃ y_ : List Int, y_ = (x11_2.set ((ji52) : Int).toNat t213) := ⟨_, rfl⟩
                replace H : (spec_AutoMake.l0 kj27 a0 a1 l3 y214 (wrap64 (x12_2 + 1)) a0 a1 a2) = some (r1, r2, r3, r4, r5) := by first | (rw [hy214]; with_reducible exact H) | (have H2_ := (Option.bind_some _ _).symm.trans H; rw [hy214]; with_reducible exact H2_) | (have H2_ := (Option.bind_some _ _).symm.trans H; with_reducible exact H2_) | with_reducible exact H | (rw [hy214]; exact H) | exact H
                have Ny214 := Aside0.mk hy214; clear hy214; have H' := Aside0.mk H; clear H; have hnb57 := NB208_201.out; have hnc57 := NB201_208.out; have hnb58 := NB208_202.out; have hnc58 := NB202_208.out; have hcz59_0 : wc.cell? ⟨gb208, 0, none⟩ = some (.int .i64 ((rd_T68 l3 x12_2).f0)) := b1 BK208 0; have hcz59_1 : wc.cell? ⟨gb208, 1, none⟩ = some (.int .i64 ((rd_T68 l3 x12_2).f1)) := b1 BK208 1; have hcz59_2 : wc.cell? ⟨gb208, 2, none⟩ = some (.int .i64 ((rd_T68 l3 x12_2).f2)) := b1 BK208 2; have hcz59_3 : wc.cell? ⟨gb208, 3, none⟩ = some (.bool ((rd_T68 l3 x12_2).f3)) := b1 BK208 3; have hfz59_0 := blk_frozen BK208.out 0; have hfz59_1 := blk_frozen BK208.out 1; have hfz59_2 := blk_frozen BK208.out 2; have hfz59_3 := blk_frozen BK208.out 3; obtain ⟨Ao60, co60, eo60⟩ := Kd.R_slice HO_11.out; subst eo60; have p212 : 0 ≤ ((ji52) : Int) := oD; have q212 : (ji52) < (x11_2.length : Int) := oD; obtain ⟨ad212, e212, hx212_0⟩ := Kd.at_int (Kd.R_reads' HO_11.out).2.2 (ji52) p212 q212
                cases e212
                replace p212 := eq_true p212; replace q212 := eq_true q212
                go_wp2_with (first | ((with_reducible refine gate_callee (f := 122) rfl ?_); refine goesL_ (some 88) rfl rfl Try.func122 (by kernel_rfl) rfl #[.int .i64 (rd x11_2 (ji52)), .int .i64 2] rfl (by (try simp only [m3]); first | done | (simp only [hji52]; rfl) | rfl | (simp only [d2]; rfl)) ?_; (with_reducible refine (spec_l1Max.calls (rd x11_2 (ji52)) 2 t213 _ A55.out).mono ?_); rintro e w' ⟨rfl, ⟨nd, rfl⟩⟩; refine ⟨_, rfl, ?_⟩; (try (rw [drewN_self wc]; generalize hq_ : World.drewN wc _ = wc; have n0_ : Aside0 (Kd.R (Kd.int .i64) 3 wc w.heap.size (fun k_ => True) (.slice (some ad212) x11_2.length co60) x11_2) := ⟨by rw [← hq_]; exact (zR HO_11.out)⟩; have n1_ : Aside0 (wc.heap[gb201]? = some (.cells #[.int .i64 x202000_2, .int .i64 x202001_2, .int .i64 x202002_2, .slice none 0 0] 24 (0, 0))) := ⟨by rw [← hq_]; exact (zB BK201.out)⟩; have n2_ : Aside0 (wc.heap[gb202]? = some (.cells #[.int .i64 a0, .int .i64 a1, .int .i64 a2, .slice none 0 0] 24 (0, 0))) := ⟨by rw [← hq_]; exact (zB BK202.out)⟩; have n3_ : Aside0 (wc.heap[gb208]? = some (.cells #[.int .i64 ((rd_T68 l3 x12_2).f0), .int .i64 ((rd_T68 l3 x12_2).f1), .int .i64 ((rd_T68 l3 x12_2).f2), .bool ((rd_T68 l3 x12_2).f3)] 68 (0, 0))) := ⟨by rw [← hq_]; exact (zB BK208.out)⟩; have n4_ : Aside0 (Below w.heap.size w wc) := ⟨by rw [← hq_]; exact (zS HB.out)⟩; clear HO_11 BK201 BK202 BK208 HB hq_; have HO_11 := n0_; have BK201 := n1_; have BK202 := n2_; have BK208 := n3_; have HB := n4_; clear n0_ n1_ n2_ n3_ n4_)); have p56 : 0 ≤ ((ji52) : Int) := oD; have q56 : ((ji52) : Int) < ((x11_2.length : Int) : Int) := oD; obtain ⟨go56, co56, eo56, gb56, gl56, cl56, HG56⟩ := Kd.R_form HO_11.out (by omega); (first | cases eo56 | (injection eo56 with ea_ en_ ec_; (first | subst ea_ | (injection ea_ with ea_; subst ea_)); subst ec_; clear en_)); have GB56 := Aside0.mk gb56; have GG56 := Aside0.mk HG56; clear gb56 gl56 HG56; (first | simp only [add_plain] at hx212_0 | skip); obtain ⟨hx56_0, hf56_0⟩ := Kd.R_celln 0 HO_11.out ((ji52) : Int) p56 q56; replace p56 := eq_true p56; replace q56 := eq_true q56; obtain ⟨hy61_, hz61_⟩ := Kd.R_celln 0 HO_11.out ((ji52) : Int) (oD) (oD); have HP61 := Kd.R_putg HO_11.out ((ji52) : Int) t213) | ((with_reducible refine gate_store (t := 3) (p := 89) rfl ?_); refine store_event (t := 3) (p := 89) (v := ?vo_w62) (w1 := (wc.setCell ⟨go56, ((ji52) : Int).toNat, none⟩ (.int .i64 t213))) ?hg ?ho ?hn ?hr ?_; (case ho => rfl); (case hg => rfl); (case hn => rfl); (case hr => first | (go_simp; done) | (go_simp; rfl)); intro w62 hw; have hg : wc.grownBy w62 (some go56) := (by rw [hw]; exact HP61.2); have hp_ : Kd.R (Kd.int .i64) 3 w62 w.heap.size (fun _ => True) (.slice (some ⟨go56, 0, none⟩) x11_2.length co60) y214 := (by rw [hw, Ny214.out]; exact HP61.1); clear HP61; replace BK201 := Aside0.mk (blk_grown (g := gb201) (o := .cells #[.int .i64 x202000_2, .int .i64 x202001_2, .int .i64 x202002_2, .slice none 0 0] 24 (0, 0)) (zB BK201.out) hg (Kd.R_ne HO_11.out BK201.out (by decide))); replace BK202 := Aside0.mk (blk_grown (g := gb202) (o := .cells #[.int .i64 a0, .int .i64 a1, .int .i64 a2, .slice none 0 0] 24 (0, 0)) (zB BK202.out) hg (Kd.R_ne HO_11.out BK202.out (by decide))); replace BK208 := Aside0.mk (blk_grown (g := gb208) (o := .cells #[.int .i64 ((rd_T68 l3 x12_2).f0), .int .i64 ((rd_T68 l3 x12_2).f1), .int .i64 ((rd_T68 l3 x12_2).f2), .bool ((rd_T68 l3 x12_2).f3)] 68 (0, 0)) (zB BK208.out) hg (Kd.R_ne HO_11.out BK208.out (by decide))); replace HO_11 := Aside0.mk (hp_); replace HB := Aside0.mk ((by rw [hw]; exact below_set (HB.out) GB56.out : Below w.heap.size w w62)); clear hg hw hp_))
                (first | go_roundg kj27 | ((try simp only [← hji21]); (try simp only [← hji52]); go_roundg kj27))
                case measure => have := HJ4.out; have := HK2.out; have := HJ27.out; omega
                case rel => exact ⟨(y214), (wrap64 (x12_2 + 1)), (x202000_2), (x202001_2), (x202002_2), (by first | rfl | (simp; done) | (simp [*]; done) | (rw [Int.tmod_eq_emod_of_nonneg (Int.natCast_nonneg _)]; done)), (by first | exact H' | (have h_ := H'; (try simp only [← hji21] at h_); (try simp only [← hji21]); (try simp only [← hji52] at h_); (try simp only [← hji52]); exact h_)), ⟨by have := HJ4.out; have := HK2.out; have := HJ27.out; omega⟩, ⟨zR HO_11.out⟩, ⟨zB BK201.out⟩, ⟨zB BK202.out⟩, ⟨zS HB.out⟩⟩
               ·rw [if_neg c54] at H; exact absurd H (by simp)
              ·rw [if_neg c53] at H; exact absurd H (by simp)
             ·rw [if_neg c51] at H
              have c51b0 : ((rd_T68 l3 x12_2).f3) = false := by simpa using c51
              clear c51; obtain ⟨ji63, hji63⟩ : ∃ j_ : Int, (wrap64 ((wrap64 ((wrap64 ((wrap64 (((rd_T68 l3 x12_2).f0) * a0)) + ((rd_T68 l3 x12_2).f1))) * a1)) + ((rd_T68 l3 x12_2).f2))) = j_ := ⟨_, rfl⟩
              replace H : (if 0 ≤ (ji63) then (if (ji63) < (x11_2.length : Int) then ((spec_l1Max.f (rd x11_2 (ji63)) 1).bind fun t216 => (spec_AutoMake.l0 kj27 a0 a1 l3 (x11_2.set ((ji63) : Int).toNat t216) (wrap64 (x12_2 + 1)) a0 a1 a2)) else (none)) else (none)) = some (r1, r2, r3, r4, r5) := by first | (rw [hji63] at H; exact H) | (simp only [hji63] at H ⊢; exact H)
              have hji63w : (IntKind.i64.wrap ((wrap64 ((wrap64 ((wrap64 (((rd_T68 l3 x12_2).f0) * a0)) + ((rd_T68 l3 x12_2).f1))) * a1)) + ((rd_T68 l3 x12_2).f2))) = ji63 := (i64_w _).trans hji63
              by_cases c64 : 0 ≤ (ji63)
              ·rw [if_pos c64] at H; have c64b0 : decide (0 ≤ (ji63)) = true := decide_eq_true c64; clear c64
               by_cases c65 : (ji63) < (x11_2.length : Int)
               ·rw [if_pos c65] at H; have c65b0 : decide ((ji63) < (x11_2.length : Int)) = true := decide_eq_true c65; clear c65; replace H := Option.bind_eq_some_iff.mp H; obtain ⟨t216, A660, H⟩ := H; replace H : (spec_AutoMake.l0 kj27 a0 a1 l3 (x11_2.set ((ji63) : Int).toNat t216) (wrap64 (x12_2 + 1)) a0 a1 a2) = some (r1, r2, r3, r4, r5) := H; have A66 := Aside0.mk A660; clear A660; obtain ⟨y217, hy217⟩ : ∃ y_ : List Int, y_ = (x11_2.set ((ji63) : Int).toNat t216) := ⟨_, rfl⟩
                replace H : (spec_AutoMake.l0 kj27 a0 a1 l3 y217 (wrap64 (x12_2 + 1)) a0 a1 a2) = some (r1, r2, r3, r4, r5) := by first | (rw [hy217]; with_reducible exact H) | (have H2_ := (Option.bind_some _ _).symm.trans H; rw [hy217]; with_reducible exact H2_) | (have H2_ := (Option.bind_some _ _).symm.trans H; with_reducible exact H2_) | with_reducible exact H | (rw [hy217]; exact H) | exact H
                have Ny217 := Aside0.mk hy217; clear hy217; have H' := Aside0.mk H; clear H; have hnb68 := NB208_201.out; have hnc68 := NB201_208.out; have hnb69 := NB208_202.out; have hnc69 := NB202_208.out; have hcz70_0 : wc.cell? ⟨gb208, 0, none⟩ = some (.int .i64 ((rd_T68 l3 x12_2).f0)) := b1 BK208 0; have hcz70_1 : wc.cell? ⟨gb208, 1, none⟩ = some (.int .i64 ((rd_T68 l3 x12_2).f1)) := b1 BK208 1; have hcz70_2 : wc.cell? ⟨gb208, 2, none⟩ = some (.int .i64 ((rd_T68 l3 x12_2).f2)) := b1 BK208 2; have hcz70_3 : wc.cell? ⟨gb208, 3, none⟩ = some (.bool ((rd_T68 l3 x12_2).f3)) := b1 BK208 3; have hfz70_0 := blk_frozen BK208.out 0; have hfz70_1 := blk_frozen BK208.out 1; have hfz70_2 := blk_frozen BK208.out 2; have hfz70_3 := blk_frozen BK208.out 3; obtain ⟨Ao71, co71, eo71⟩ := Kd.R_slice HO_11.out; subst eo71; have p215 : 0 ≤ ((ji63) : Int) := oD; have q215 : (ji63) < (x11_2.length : Int) := oD; obtain ⟨ad215, e215, hx215_0⟩ := Kd.at_int (Kd.R_reads' HO_11.out).2.2 (ji63) p215 q215
                cases e215
                replace p215 := eq_true p215; replace q215 := eq_true q215
                go_wp2_with (first | ((with_reducible refine gate_callee (f := 122) rfl ?_); refine goesL_ (some 88) rfl rfl Try.func122 (by kernel_rfl) rfl #[.int .i64 (rd x11_2 (ji63)), .int .i64 1] rfl (by (try simp only [m3]); first | done | (simp only [hji63]; rfl) | rfl | (simp only [d2]; rfl)) ?_; (with_reducible refine (spec_l1Max.calls (rd x11_2 (ji63)) 1 t216 _ A66.out).mono ?_); rintro e w' ⟨rfl, ⟨nd, rfl⟩⟩; refine ⟨_, rfl, ?_⟩; (try (rw [drewN_self wc]; generalize hq_ : World.drewN wc _ = wc; have n0_ : Aside0 (Kd.R (Kd.int .i64) 3 wc w.heap.size (fun k_ => True) (.slice (some ad215) x11_2.length co71) x11_2) := ⟨by rw [← hq_]; exact (zR HO_11.out)⟩; have n1_ : Aside0 (wc.heap[gb201]? = some (.cells #[.int .i64 x202000_2, .int .i64 x202001_2, .int .i64 x202002_2, .slice none 0 0] 24 (0, 0))) := ⟨by rw [← hq_]; exact (zB BK201.out)⟩; have n2_ : Aside0 (wc.heap[gb202]? = some (.cells #[.int .i64 a0, .int .i64 a1, .int .i64 a2, .slice none 0 0] 24 (0, 0))) := ⟨by rw [← hq_]; exact (zB BK202.out)⟩; have n3_ : Aside0 (wc.heap[gb208]? = some (.cells #[.int .i64 ((rd_T68 l3 x12_2).f0), .int .i64 ((rd_T68 l3 x12_2).f1), .int .i64 ((rd_T68 l3 x12_2).f2), .bool ((rd_T68 l3 x12_2).f3)] 68 (0, 0))) := ⟨by rw [← hq_]; exact (zB BK208.out)⟩; have n4_ : Aside0 (Below w.heap.size w wc) := ⟨by rw [← hq_]; exact (zS HB.out)⟩; clear HO_11 BK201 BK202 BK208 HB hq_; have HO_11 := n0_; have BK201 := n1_; have BK202 := n2_; have BK208 := n3_; have HB := n4_; clear n0_ n1_ n2_ n3_ n4_)); have p67 : 0 ≤ ((ji63) : Int) := oD; have q67 : ((ji63) : Int) < ((x11_2.length : Int) : Int) := oD; obtain ⟨go67, co67, eo67, gb67, gl67, cl67, HG67⟩ := Kd.R_form HO_11.out (by omega); (first | cases eo67 | (injection eo67 with ea_ en_ ec_; (first | subst ea_ | (injection ea_ with ea_; subst ea_)); subst ec_; clear en_)); have GB67 := Aside0.mk gb67; have GG67 := Aside0.mk HG67; clear gb67 gl67 HG67; (first | simp only [add_plain] at hx215_0 | skip); obtain ⟨hx67_0, hf67_0⟩ := Kd.R_celln 0 HO_11.out ((ji63) : Int) p67 q67; replace p67 := eq_true p67; replace q67 := eq_true q67; obtain ⟨hy72_, hz72_⟩ := Kd.R_celln 0 HO_11.out ((ji63) : Int) (oD) (oD); have HP72 := Kd.R_putg HO_11.out ((ji63) : Int) t216) | ((with_reducible refine gate_store (t := 3) (p := 89) rfl ?_); refine store_event (t := 3) (p := 89) (v := ?vo_w73) (w1 := (wc.setCell ⟨go67, ((ji63) : Int).toNat, none⟩ (.int .i64 t216))) ?hg ?ho ?hn ?hr ?_; (case ho => rfl); (case hg => rfl); (case hn => rfl); (case hr => first | (go_simp; done) | (go_simp; rfl)); intro w73 hw; have hg : wc.grownBy w73 (some go67) := (by rw [hw]; exact HP72.2); have hp_ : Kd.R (Kd.int .i64) 3 w73 w.heap.size (fun _ => True) (.slice (some ⟨go67, 0, none⟩) x11_2.length co71) y217 := (by rw [hw, Ny217.out]; exact HP72.1); clear HP72; replace BK201 := Aside0.mk (blk_grown (g := gb201) (o := .cells #[.int .i64 x202000_2, .int .i64 x202001_2, .int .i64 x202002_2, .slice none 0 0] 24 (0, 0)) (zB BK201.out) hg (Kd.R_ne HO_11.out BK201.out (by decide))); replace BK202 := Aside0.mk (blk_grown (g := gb202) (o := .cells #[.int .i64 a0, .int .i64 a1, .int .i64 a2, .slice none 0 0] 24 (0, 0)) (zB BK202.out) hg (Kd.R_ne HO_11.out BK202.out (by decide))); replace BK208 := Aside0.mk (blk_grown (g := gb208) (o := .cells #[.int .i64 ((rd_T68 l3 x12_2).f0), .int .i64 ((rd_T68 l3 x12_2).f1), .int .i64 ((rd_T68 l3 x12_2).f2), .bool ((rd_T68 l3 x12_2).f3)] 68 (0, 0)) (zB BK208.out) hg (Kd.R_ne HO_11.out BK208.out (by decide))); replace HO_11 := Aside0.mk (hp_); replace HB := Aside0.mk ((by rw [hw]; exact below_set (HB.out) GB67.out : Below w.heap.size w w73)); clear hg hw hp_))
                (first | go_roundg kj27 | ((try simp only [← hji21]); (try simp only [← hji63]); go_roundg kj27))
                case measure => have := HJ4.out; have := HK2.out; have := HJ27.out; omega
                case rel => exact ⟨(y217), (wrap64 (x12_2 + 1)), (x202000_2), (x202001_2), (x202002_2), (by first | rfl | (simp; done) | (simp [*]; done) | (rw [Int.tmod_eq_emod_of_nonneg (Int.natCast_nonneg _)]; done)), (by first | exact H' | (have h_ := H'; (try simp only [← hji21] at h_); (try simp only [← hji21]); (try simp only [← hji63] at h_); (try simp only [← hji63]); exact h_)), ⟨by have := HJ4.out; have := HK2.out; have := HJ27.out; omega⟩, ⟨zR HO_11.out⟩, ⟨zB BK201.out⟩, ⟨zB BK202.out⟩, ⟨zS HB.out⟩⟩
               ·rw [if_neg c65] at H; exact absurd H (by simp)
              ·rw [if_neg c64] at H; exact absurd H (by simp)
         ·rw [if_neg c27] at H; exact absurd H (by simp)
        ·rw [if_neg c26] at H; have c26b0 : decide (x12_2 < (l3.length : Int)) = false := decide_eq_false c26; clear c26; have H' := Aside0.mk H; clear H
         go_wp2
         go_loopg [16] k2 (fun kq v16 w' => ∃ (x16_3 : Int) (x203003_3 : List (S68)) (u203003 : Value), v16 = .int .i64 x16_3 ∧ Aside0 (spec_AutoMake.l1 kq a0 a1 x11_2 x16_3 a0 a1 a2 x203003_3 = some (r1, r2, r3, r4, r5)) ∧ Aside0 (kq ≤ k2) ∧ Aside0 (Kd.R (Kd.int .i64) 3 w' w.heap.size (fun _ => True) v205 x11_2) ∧ Aside0 (Kd.R k68 68 w' w.heap.size (fun _ => True) u203003 x203003_3) ∧ Aside0 (w'.heap[gb201]? = some (.cells #[.int .i64 x202000_2, .int .i64 x202001_2, .int .i64 x202002_2, (.slice none 0 0)] 24 (0, 0))) ∧ Aside0 (w'.heap[gb202]? = some (.cells #[.int .i64 a0, .int .i64 a1, .int .i64 a2, u203003] 24 (0, 0))) ∧ Aside0 (Below w.heap.size w w'))
         case atStart => exact ⟨(0), (([] : List (S68))), (.slice none 0 0), (by first | rfl | (simp; done) | (simp [*]; done) | (rw [Int.tmod_eq_emod_of_nonneg (Int.natCast_nonneg _)]; done)), H', ⟨Nat.le_refl _⟩, ⟨zR HO_11.out⟩, ⟨by first | exact Kd.R_nil _ _ _ _ _ | exact Kd.N_nil _ _ _ _ _ | exact Kd.V_nil _ _ _ _ _ | exact Kd.Q_nil _ _ _ _ _ | exact Kd.S_nil _ _ _ _ _⟩, ⟨zB BK201.out⟩, ⟨zB BK202.out⟩, ⟨zS HB.out⟩⟩
         case round =>
          clear H'
          try clear c1
          try clear c2
          try clear p2
          try clear q2
          try clear hx2
          try clear c3
          try clear c4
          try clear c5
          try clear p5
          try clear q5
          try clear hx5
          try clear hf5
          try clear c6
          try clear p6
          try clear q6
          try clear hx6
          try clear hf6
          try clear c8
          try clear c11
          try clear c12
          try clear c15
          try clear c18
          try clear c19
          try clear c20
          try clear p20
          try clear q20
          try clear hx20
          try clear p21
          try clear q21
          try clear hx21
          try clear c22
          try clear c22b0
          try clear c22b1
          try clear c23
          try clear c23b0
          try clear c23b1
          try clear c26
          try clear c26b0
          try clear c27
          try clear c27b0
          try clear c30
          try clear c31
          try clear c34
          try clear c36
          try clear c38
          try clear c39
          try clear c41
          try clear c42
          try clear c44
          try clear c45
          try clear c47
          try clear c48
          try clear c49
          try clear c51
          try clear c51b0
          try clear c53
          try clear c53b0
          try clear c54
          try clear c54b0
          try clear p56
          try clear q56
          try clear hx56
          try clear hf56
          try clear c57
          try clear c58
          try clear c64
          try clear c64b0
          try clear p64
          try clear c65
          try clear c65b0
          try clear p67
          try clear q67
          try clear hx67
          try clear hf67
          try clear c68
          try clear c69
          try clear hcz13_0
          try clear hcz13_1
          try clear hcz13_2
          try clear hcz13_3
          try clear hcz16_0
          try clear hcz16_1
          try clear hcz16_2
          try clear hcz16_3
          try clear hcz20_0
          try clear hcz20_1
          try clear hcz20_2
          try clear hcz20_3
          try clear hcz32_0
          try clear hcz32_1
          try clear hcz32_2
          try clear hcz32_3
          try clear hcz40_0
          try clear hcz40_1
          try clear hcz40_2
          try clear hcz40_3
          try clear hcz43_0
          try clear hcz43_1
          try clear hcz43_2
          try clear hcz43_3
          try clear hcz46_0
          try clear hcz46_1
          try clear hcz46_2
          try clear hcz46_3
          try clear hcz50_0
          try clear hcz50_1
          try clear hcz50_2
          try clear hcz50_3
          try clear hcz59_0
          try clear hcz59_1
          try clear hcz59_2
          try clear hcz59_3
          try clear hcz70_0
          try clear hcz70_1
          try clear hcz70_2
          try clear hcz70_3
          try clear hcz9_0
          try clear hcz9_1
          try clear hcz9_2
          try clear hcz9_3
          try clear hfz13_0
          try clear hfz13_1
          try clear hfz13_2
          try clear hfz13_3
          try clear hfz16_0
          try clear hfz16_1
          try clear hfz16_2
          try clear hfz16_3
          try clear hfz20_0
          try clear hfz20_1
          try clear hfz20_2
          try clear hfz20_3
          try clear hfz32_0
          try clear hfz32_1
          try clear hfz32_2
          try clear hfz32_3
          try clear hfz40_0
          try clear hfz40_1
          try clear hfz40_2
          try clear hfz40_3
          try clear hfz43_0
          try clear hfz43_1
          try clear hfz43_2
          try clear hfz43_3
          try clear hfz46_0
          try clear hfz46_1
          try clear hfz46_2
          try clear hfz46_3
          try clear hfz50_0
          try clear hfz50_1
          try clear hfz50_2
          try clear hfz50_3
          try clear hfz59_0
          try clear hfz59_1
          try clear hfz59_2
          try clear hfz59_3
          try clear hfz70_0
          try clear hfz70_1
          try clear hfz70_2
          try clear hfz70_3
          try clear hfz9_0
          try clear hfz9_1
          try clear hfz9_2
          try clear hfz9_3
          try clear hx207_0
          try clear hx207_1
          try clear hx207_2
          try clear hx207_3
          try clear hx212_0
          try clear hx215_0
          try clear hx56_0
          try clear hx67_0
          try clear p2
          try clear p20
          try clear p207
          try clear p212
          try clear p215
          try clear p56
          try clear p6
          try clear p67
          try clear q2
          try clear q20
          try clear q207
          try clear q212
          try clear q215
          try clear q56
          try clear q67
          obtain ⟨x16_3, x203003_3, u203003, rfl, HA, HK3, HO_11, HO_203003, BK201, BK202, HB⟩ := hrel
          cases gk with
          | zero => exact absurd HA.out (by simp [spec_AutoMake.l1])
          | succ k3 =>
           have H := HA.out; clear HA; simp only [spec_AutoMake.l1] at H
           by_cases c74 : x16_3 < (x11_2.length : Int)
           ·rw [if_pos c74] at H; have c74b0 : decide (x16_3 < (x11_2.length : Int)) = true := decide_eq_true c74; clear c74
            by_cases c75 : 0 ≤ x16_3
            ·rw [if_pos c75] at H; have c75b0 : decide (0 ≤ x16_3) = true := decide_eq_true c75; clear c75
             by_cases c76 : (rd x11_2 x16_3) > 0
             ·rw [if_pos c76] at H; have c76b0 : decide (0 < (rd x11_2 x16_3)) = true := decide_eq_true c76; clear c76
              by_cases c77 : a1 = 0
              ·rw [if_pos c77] at H; exact absurd H (by simp)
              ·rw [if_neg c77] at H; have c77b0 : (a1 == 0) = false := beq_eq_false_iff_ne.mpr c77; have c77b1 : (a1 != 0) = true := bne_iff_ne.mpr c77
               by_cases c78 : a0 = 0
               ·rw [if_pos c78] at H; exact absurd H (by simp)
               ·rw [if_neg c78] at H; have c78b0 : (a0 == 0) = false := beq_eq_false_iff_ne.mpr c78; have c78b1 : (a0 != 0) = true := bne_iff_ne.mpr c78
                by_cases c79 : x203003_3.length < 4398046511104
                ·rw [if_pos c79] at H; have LMc79 := Aside0.mk c79; clear c79; obtain ⟨y220, hy220⟩ : ∃ y_ : List (S68), y_ = (x203003_3 ++ [(⟨wrap64 (Int.tdiv (wrap64 (Int.tdiv x16_3 a1)) a0), Int.tmod (wrap64 (Int.tdiv x16_3 a1)) a0, Int.tmod x16_3 a1, ((rd x11_2 x16_3) == 2)⟩ : S68)]) := ⟨_, rfl⟩
                 replace H : (spec_AutoMake.l1 k3 a0 a1 x11_2 (wrap64 (x16_3 + 1)) a0 a1 a2 y220) = some (r1, r2, r3, r4, r5) := by first | (rw [hy220]; with_reducible exact H) | (have H2_ := (Option.bind_some _ _).symm.trans H; rw [hy220]; with_reducible exact H2_) | (have H2_ := (Option.bind_some _ _).symm.trans H; with_reducible exact H2_) | with_reducible exact H | (rw [hy220]; exact H) | exact H
                 have Ny220 := Aside0.mk hy220; clear hy220; have H' := Aside0.mk H; clear H; obtain ⟨Ao80, co80, eo80⟩ := Kd.R_slice HO_11.out; subst eo80; have p218 : 0 ≤ (x16_3 : Int) := oD; have q218 : x16_3 < (x11_2.length : Int) := oD; obtain ⟨ad218, e218, hx218_0⟩ := Kd.at_int (Kd.R_reads' HO_11.out).2.2 x16_3 p218 q218
                 cases e218
                 replace p218 := eq_true p218; replace q218 := eq_true q218
                 try go_wp2
                 replace HO_11 := Aside0.mk (Kd.R_drew HO_11.out); replace HO_203003 := Aside0.mk (Kd.R_drew HO_203003.out); replace BK201 := Aside0.mk (blk_drew BK201.out); replace BK202 := Aside0.mk (blk_drew BK202.out); replace HB := Aside0.mk (below_drew1 HB.out); have p219 : 0 ≤ (x16_3 : Int) := oD; have q219 : x16_3 < (x11_2.length : Int) := oD; obtain ⟨ad219, e219, hx219_0⟩ := Kd.at_int (Kd.R_reads' HO_11.out).2.2 x16_3 p219 q219; obtain rfl : ad218 = ad219 := (by injection e219); replace p219 := eq_true p219; replace q219 := eq_true q219; refine start_ (n := 25) (S := fun w' => w'.cell? ⟨gb202, 0, none⟩ = some (.int .i64 a0) ∧ w'.cell? ⟨gb202, 1, none⟩ = some (.int .i64 a1) ∧ w'.cell? ⟨gb202, 2, none⟩ = some (.int .i64 a2) ∧ w'.cell? ⟨gb202, 3, none⟩ = some (u203003) ∧ w'.cell? (ad218.add (x16_3).toNat) = some (.int .i64 (rd x11_2 x16_3))) (ds := [22, 24]) bl0 (by kernel_rfl) rfl rfl ⟨b1 BK202 0, b1 BK202 1, b1 BK202 2, b1 BK202 3, hx219_0⟩ (fun hHeld => ?_); refine with_tabW spec_AutoMake.tab20 spec_AutoMake.bits20 (fun HT_ HW_ => ?_); generalize wr.drew = w81 at HO_11 HO_203003 BK201 BK202 HB hx219_0 hHeld ⊢
                 refine pu 0 (some 101) bl1 HT_ ?_ rfl rfl (.inl ⟨by rfl, ?_⟩) ?_ ?_ ?_; rotate_left; (intro w'; go_simp; with_reducible rfl); rotate_left; (simp only [Act.put, q5]; rfl)
                 refine pu 2 (some 103) bl2 HT_ ?_ rfl rfl (.inl ⟨by rfl, ?_⟩) ?_ ?_ ?_; rotate_left; (intro w'; go_simp; with_reducible rfl); rotate_left; (simp only [Act.put, q5]; rfl)
                 refine pu 3 (some 104) bl3 HT_ ?_ rfl rfl (.inl ⟨by rfl, ?_⟩) ?_ ?_ ?_; rotate_left; (intro w'; go_simp; with_reducible rfl); rotate_left; (simp only [Act.put, q5]; rfl)
                 refine pu 4 (some 105) bl4 HT_ ?_ rfl rfl (.inl ⟨by rfl, ?_⟩) ?_ ?_ ?_; rotate_left; (intro w'; go_simp; with_reducible rfl); rotate_left; (simp only [Act.put, q5]; rfl)
                 refine pu 5 (some 106) bl5 HT_ ?_ rfl rfl (.inl ⟨by rfl, ?_⟩) ?_ ?_ ?_; rotate_left; (intro w'; go_simp; with_reducible rfl); rotate_left; (simp only [Act.put, q5]; rfl)
                 refine pu 6 (some 107) bl6 HT_ ?_ rfl rfl (.inl ⟨by rfl, ?_⟩) ?_ ?_ ?_; rotate_left; (intro w'; go_simp; with_reducible rfl); rotate_left; (simp only [Act.put, q5]; rfl)
                 refine pu 7 (some 108) bl7 HT_ ?_ rfl rfl (.inl ⟨by rfl, ?_⟩) ?_ ?_ ?_; rotate_left; (intro w'; go_simp; with_reducible rfl); rotate_left; (simp only [Act.put, q5]; rfl)
                 refine pu 8 (some 109) bl8 HT_ ?_ rfl rfl (.inl ⟨by rfl, ?_⟩) ?_ ?_ ?_; rotate_left; (intro w'; go_simp; with_reducible rfl); rotate_left; (simp only [Act.put, q5]; rfl)
                 refine pu 9 (some 110) bl9 HT_ ?_ rfl rfl (.inl ⟨by rfl, ?_⟩) ?_ ?_ ?_; rotate_left; (intro w'; go_simp; with_reducible rfl); rotate_left; (simp only [Act.put, q5]; rfl)
                 refine pu 10 (some 111) bl10 HT_ ?_ rfl rfl (.inl ⟨by rfl, ?_⟩) ?_ ?_ ?_; rotate_left; (intro w'; go_simp; with_reducible rfl); rotate_left; (simp only [Act.put, q5]; rfl)
                 refine pu 11 (some 112) bl11 HT_ ?_ rfl rfl (.inl ⟨by rfl, ?_⟩) ?_ ?_ ?_; rotate_left; (intro w'; go_simp; with_reducible rfl); rotate_left; (simp only [Act.put, q5]; rfl)
                 refine pu 12 (some 113) bl12 HT_ ?_ rfl rfl (.inl ⟨by rfl, ?_⟩) ?_ ?_ ?_; rotate_left; (intro w'; go_simp; with_reducible rfl); rotate_left; (simp only [Act.put, q5]; rfl)
                 refine pu 13 (some 114) bl13 HT_ ?_ rfl rfl (.inl ⟨by rfl, ?_⟩) ?_ ?_ ?_; rotate_left; (intro w'; go_simp; with_reducible rfl); rotate_left; (simp only [Act.put, q5]; rfl)
                 refine pu 14 (some 115) bl14 HT_ ?_ rfl rfl (.inl ⟨by rfl, ?_⟩) ?_ ?_ ?_; rotate_left; (intro w'; go_simp; with_reducible rfl); rotate_left; (simp only [Act.put, q5]; rfl)
                 refine pu 15 (some 116) bl15 HT_ ?_ rfl rfl (.inl ⟨by rfl, ?_⟩) ?_ ?_ ?_; rotate_left; (intro w'; go_simp; with_reducible rfl); rotate_left; (simp only [Act.put, q5]; rfl)
                 refine pu 16 (some 117) bl16 HT_ ?_ rfl rfl (.inl ⟨by rfl, ?_⟩) ?_ ?_ ?_; rotate_left; (intro w'; go_simp; with_reducible rfl); rotate_left; (simp only [Act.put, q5]; rfl)
                 refine pu 17 (some 118) bl17 HT_ ?_ rfl rfl (.inl ⟨by rfl, ?_⟩) ?_ ?_ ?_; rotate_left; (intro w'; go_simp; with_reducible rfl); rotate_left; (simp only [Act.put, q5]; rfl)
                 refine take_ (i := 1) (N := some 102) (v := ?_) (a' := ?_) bl18 rfl rfl (take_ofW HT_.out HW_.out (by kernel_rfl)) (fun _ _ _ h => h) (Or.inl ⟨by rfl, ?_⟩) hHeld ?_ ?_; rotate_left
                 ·rintro w' ⟨s0, s1, s2, s3, s4⟩; go_simp; with_reducible rfl
                 rotate_left
                 ·simp only [Act.put, q5]; rfl
                 refine take_ (i := 18) (N := some 119) (v := ?_) (a' := ?_) bl19 rfl rfl (take_ofW HT_.out HW_.out (by kernel_rfl)) (fun _ _ _ h => h) (Or.inl ⟨by rfl, ?_⟩) hHeld ?_ ?_; rotate_left
                 ·rintro w' ⟨s0, s1, s2, s3, s4⟩; go_simp; with_reducible rfl
                 rotate_left
                 ·simp only [Act.put, q5]; rfl
                 refine pu 19 (some 120) bl20 HT_ ?_ rfl rfl (.inl ⟨by rfl, ?_⟩) ?_ ?_ ?_; rotate_left; (intro w'; go_simp; with_reducible rfl); rotate_left; (simp only [Act.put, q5]; rfl)
                 refine pu 20 (some 121) bl21 HT_ ?_ rfl rfl (.inl ⟨by rfl, ?_⟩) ?_ ?_ ?_; rotate_left; (intro w'; go_simp; with_reducible rfl); rotate_left; (simp only [Act.put, q5]; rfl)
                 refine one_ (i := 21) (N := some 122) bl22 rfl rfl (one_of HT_.out (by kernel_rfl)) (by decide) (fun K hK => ?_); refine value_ (w1 := ?_) (v := ?_) (by rfl) rfl ?_ ?_; rotate_left 2
                 ·go_simp
                  constructor
                  ·rfl
                  ·rfl
                 refine hK.out _ _ ⟨(blk_cell (blk_alloc BK202.out _) 0).trans rfl, (blk_cell (blk_alloc BK202.out _) 1).trans rfl, (blk_cell (blk_alloc BK202.out _) 2).trans rfl, (blk_cell (blk_alloc BK202.out _) 3).trans rfl, (World.cell?_alloc_lt _ _ _ (World.block_lt_of_cell? _ _ (hHeld.2.2.2.2))).trans (hHeld.2.2.2.2)⟩ (fun hHeld => ?_); clear hK K; refine norm_ (a' := ?_) ?_ ?_; rotate_left
                 ·show Act.put _ (some 122) _ = _; simp only [Act.put, q5]; rfl
                 refine last_ (i := 22) (N := some 123) bl23 rfl rfl (one_of HT_.out (by kernel_rfl)) (by decide) (fun K hK => ?_); refine Kd.R_append_step k68 (w0 := w) w.heap.size (by rfl) (.tmp 102) (.tmp 122) 22 68 (.agg #[(.int .i64 0), (.int .i64 0), (.int .i64 0), (.bool false)]) 32 rfl Try.underlying22 info68 rfl (by decide) (by omega) u203003 x203003_3 (⟨wrap64 (Int.tdiv (wrap64 (Int.tdiv x16_3 a1)) a0), Int.tmod (wrap64 (Int.tdiv x16_3 a1)) a0, Int.tmod x16_3 a1, ((rd x11_2 x16_3) == 2)⟩ : S68) [.int .i64 (wrap64 (Int.tdiv (wrap64 (Int.tdiv x16_3 a1)) a0)), .int .i64 (Int.tmod (wrap64 (Int.tdiv x16_3 a1)) a0), .int .i64 (Int.tmod x16_3 a1), .bool ((rd x11_2 x16_3) == 2)] (fun _ => True) (fun _ => False) rfl rfl ?aP (fun _ hk => hk.elim) ?aF ?aO ?aB ?aS ?aL ?_
                 (case aP => exact k68_mkM _ _ _ (⟨wrap64 (Int.tdiv (wrap64 (Int.tdiv x16_3 a1)) a0), Int.tmod (wrap64 (Int.tdiv x16_3 a1)) a0, Int.tmod x16_3 a1, ((rd x11_2 x16_3) == 2)⟩ : S68))
                 (case aB => exact (zS HB.out))
                 (case aF => exact (fun _ _ => trivial))
                 (case aO => exact (zR HO_203003.out))
                 (case aS => exact (below_size (zS HB.out)))
                 (case aL => have := LMc79.out; omega)
                 intro v221 w82 ho hb hg hat; rw [← Ny220.out] at ho; have n0_ := Aside0.mk (Kd.R_over' (zR HO_11.out) (Kd.R_typed (zR HO_203003.out)) (by decide) hg); have n1_ := Aside0.mk (blk_grown (g := gb201) (o := .cells #[.int .i64 x202000_2, .int .i64 x202001_2, .int .i64 x202002_2, .slice none 0 0] 24 (0, 0)) (zB BK201.out) hg (Kd.R_ne HO_203003.out BK201.out (by decide))); have n2_ := Aside0.mk (blk_grown (g := gb202) (o := .cells #[.int .i64 a0, .int .i64 a1, .int .i64 a2, u203003] 24 (0, 0)) (zB BK202.out) hg (Kd.R_ne HO_203003.out BK202.out (by decide))); have n3_ := Aside0.mk (hb); have n4_ := Aside0.mk (ho); clear HO_11; clear BK201; clear BK202; clear HB; clear HO_203003; have HO_11 := n0_; have BK201 := n1_; have BK202 := n2_; have HB := n3_; have HO222 := n4_; clear n0_ n1_ n2_ n3_ n4_; clear ho hb hg hat; obtain ⟨Ao83, co83, eo83⟩ := Kd.R_slice HO222.out
                 (first | subst eo83 | (injection eo83 with f1_ f2_ f3_; have f4_ := f1_.symm; have f5_ := f3_.symm; clear f1_ f2_ f3_; subst f4_; subst f5_))
                 refine hK.out _ _ ?_; clear hK K; refine norm_ (a' := ?_) ?_ ?_; rotate_left
                 ·show Act.put _ (some 123) _ = _; simp only [Act.put, q5]; rfl
                 refine pu 23 (some 124) bl24 HT_ ?_ rfl rfl (.inl ⟨by rfl, ?_⟩) ?_ ?_ ?_; rotate_left; (intro w'; go_simp; with_reducible rfl); rotate_left; (simp only [Act.put, q5]; rfl)
                 refine last_ (i := 24) (N := none) bl25 rfl rfl (one_of HT_.out (by kernel_rfl)) (by decide) (fun K hK => ?_); have hs84 : w82.cell? ⟨gb202, 3, none⟩ = some (u203003) := b1 BK202 3; have hfs84 := blk_frozen BK202.out 3; have hns84_0 := NB201_202.out; have hms84_0 := NB202_201.out; refine skip_ (w1 := ?_) (by rfl) rfl ?_ ?_; rotate_left
                 ·go_simp; rfl
                 refine hK.out _ _ ?_; clear hK K; refine done_ (done_of HT_.out (by kernel_rfl)) ?_
                 try go_wp2
                 (first | go_roundg k3 | ((try simp only [← hji21]); go_roundg k3))
                 case measure => have := HJ4.out; have := HK2.out; have := HK3.out; omega
                 case rel => exact ⟨(wrap64 (x16_3 + 1)), (y220), (.slice Ao83 y220.length co83), (by first | rfl | (simp; done) | (simp [*]; done) | (rw [Int.tmod_eq_emod_of_nonneg (Int.natCast_nonneg _)]; done)), (by first | exact H' | (have h_ := H'; (try simp only [← hji21] at h_); (try simp only [← hji21]); exact h_)), ⟨by have := HJ4.out; have := HK2.out; have := HK3.out; omega⟩, ⟨by (with_reducible repeat (first | apply Kd.R_alloc | apply Kd.R_drewN | apply Kd.R_drew)); exact Kd.R_mono (Kd.R_far (p := ⟨gb202, 3, none⟩) (Kd.R_types HO_11.out BK202.out (by decide)) (fun _ hk => hk.2) (.slice Ao83 y220.length co83)) (fun _ hk => trivial)⟩, ⟨by (with_reducible repeat (first | apply Kd.R_alloc | apply Kd.R_drewN | apply Kd.R_drew)); exact Kd.R_mono (Kd.R_far (p := ⟨gb202, 3, none⟩) (Kd.R_types HO222.out BK202.out (by decide)) (fun _ hk => hk.2) (.slice Ao83 y220.length co83)) (fun _ hk => trivial)⟩, ⟨zB BK201.out⟩, ⟨by (with_reducible repeat (first | refine blk_drewN ?_ _ | refine blk_drew ?_ | refine blk_alloc ?_ _)); refine blk_put (cs := #[.int .i64 a0, .int .i64 a1, .int .i64 a2, u203003]) ?_ 3 _ rfl; (with_reducible repeat (first | refine blk_drewN ?_ _ | refine blk_drew ?_ | refine blk_alloc ?_ _)); exact BK202.out⟩, ⟨zS HB.out⟩⟩
                ·rw [if_neg c79] at H; exact absurd H (by simp)
             ·rw [if_neg c76] at H; have c76b0 : decide (0 < (rd x11_2 x16_3)) = false := decide_eq_false c76; clear c76; have H' := Aside0.mk H; clear H; obtain ⟨Ao85, co85, eo85⟩ := Kd.R_slice HO_11.out; subst eo85; have p218 : 0 ≤ (x16_3 : Int) := oD; have q218 : x16_3 < (x11_2.length : Int) := oD; obtain ⟨ad218, e218, hx218_0⟩ := Kd.at_int (Kd.R_reads' HO_11.out).2.2 x16_3 p218 q218
              cases e218
              replace p218 := eq_true p218; replace q218 := eq_true q218
              go_wp2
              (first | go_roundg k3 | ((try simp only [← hji21]); go_roundg k3))
              case measure => have := HJ4.out; have := HK2.out; have := HK3.out; omega
              case rel => exact ⟨(wrap64 (x16_3 + 1)), (x203003_3), (u203003), (by first | rfl | (simp; done) | (simp [*]; done) | (rw [Int.tmod_eq_emod_of_nonneg (Int.natCast_nonneg _)]; done)), (by first | exact H' | (have h_ := H'; (try simp only [← hji21] at h_); (try simp only [← hji21]); exact h_)), ⟨by have := HJ4.out; have := HK2.out; have := HK3.out; omega⟩, ⟨zR HO_11.out⟩, ⟨zR HO_203003.out⟩, ⟨zB BK201.out⟩, ⟨zB BK202.out⟩, ⟨zS HB.out⟩⟩
            ·rw [if_neg c75] at H; exact absurd H (by simp)
           ·rw [if_neg c74] at H; have c74b0 : decide (x16_3 < (x11_2.length : Int)) = false := decide_eq_false c74; clear c74; simp only [Option.some.injEq, Prod.mk.injEq] at H; obtain ⟨rfl, rfl, rfl, rfl, rfl⟩ := H; obtain ⟨Ao86, co86, eo86⟩ := Kd.R_slice HO_11.out; subst eo86; have hnb87 := NB202_201.out; have hnc87 := NB201_202.out; have hcz88_0 : wr.cell? ⟨gb202, 0, none⟩ = some (.int .i64 a0) := b1 BK202 0; have hcz88_1 : wr.cell? ⟨gb202, 1, none⟩ = some (.int .i64 a1) := b1 BK202 1; have hcz88_2 : wr.cell? ⟨gb202, 2, none⟩ = some (.int .i64 a2) := b1 BK202 2; have hcz88_3 : wr.cell? ⟨gb202, 3, none⟩ = some (u203003) := b1 BK202 3; have hfz88_0 := blk_frozen BK202.out 0; have hfz88_1 := blk_frozen BK202.out 1; have hfz88_2 := blk_frozen BK202.out 2; have hfz88_3 := blk_frozen BK202.out 3; have hcz89_0 : wr.cell? ⟨gb201, 0, none⟩ = some (.int .i64 x202000_2) := b1 BK201 0; have hcz89_1 : wr.cell? ⟨gb201, 1, none⟩ = some (.int .i64 x202001_2) := b1 BK201 1; have hcz89_2 : wr.cell? ⟨gb201, 2, none⟩ = some (.int .i64 x202002_2) := b1 BK201 2; have hcz89_3 : wr.cell? ⟨gb201, 3, none⟩ = some (.slice none 0 0) := b1 BK201 3; have hfz89_0 := blk_frozen BK201.out 0; have hfz89_1 := blk_frozen BK201.out 1; have hfz89_2 := blk_frozen BK201.out 2; have hfz89_3 := blk_frozen BK201.out 3; obtain ⟨Ao90, co90, eo90⟩ := Kd.R_slice HO_203003.out; subst eo90
            go_wp2
            refine bodyPost_ret (results_ct rfl _ _ gb201 24 #[.int .i64 a0, .int .i64 a1, .int .i64 a2, .slice Ao90 x203003_3.length co90] (0, 0) _ rfl (xP4 BK201.out) Try.underlying24 rfl (by kernel_rfl)) rfl ?_; exact ⟨_, by first | rfl | (simp [errW_none, errW_some] <;> rfl) | (simp only [← hji21]; first | rfl | (simp [errW_none, errW_some] <;> rfl)) | (simp [*, errW_none, errW_some] <;> rfl), by (with_reducible repeat (first | apply Kd.R_alloc | apply Kd.R_drewN | apply Kd.R_drew)); exact Kd.R_mono (Kd.R_far (p := ⟨gb201, 3, none⟩) (Kd.R_far (p := ⟨gb201, 2, none⟩) (Kd.R_far (p := ⟨gb201, 1, none⟩) (Kd.R_far (p := ⟨gb201, 0, none⟩) (Kd.R_types HO_203003.out BK201.out (by decide)) (fun _ hk => hk.2) (.int .i64 a0)) (fun _ hk => hk.2) (.int .i64 a1)) (fun _ hk => hk.2) (.int .i64 a2)) (fun _ hk => hk.2) (.slice Ao90 x203003_3.length co90)) (fun _ hk => trivial), by repeat (first | (with_reducible first | exact HB.out | apply below_alloc | apply pw_below_drewN | apply below_drew1 | refine below_set ?_ GE201.out | refine below_set ?_ GE202.out) | exact HB.out)⟩
     ·rw [if_neg c23] at H; exact absurd H (by simp)
    ·rw [if_neg c22] at H; exact absurd H (by simp)


/-! ### spec_l1Once: function 123 -/
def spec_l1Once.f (s0_0 : List Int) (s0_1 : Int) (s0_2 : Int) (a1 : Int) : Option (Bool × Int × Int) := (spec_l1Below.f s0_0 s0_1 s0_2 a1).bind fun bt223 => (some ((bt223.1 == 0), bt223.2.1, bt223.2.2))
open Go.Proofs.Ytlallflpicgcmaa.Short2 in
set_option maxHeartbeats 8000000 in
set_option maxRecDepth 100000 in
theorem spec_l1Once.calls (g : Nat) (s0_0 : List Int) (s0_1 : Int) (s0_2 : Int) (a1 : Int) (r1 : Bool) (r2 : Int) (r3 : Int) (w0 w : World) (hI : IsS121 w0 w g s0_0 s0_1 s0_2) (hB : Below w0.heap.size w0 w) (h : spec_l1Once.f s0_0 s0_1 s0_2 a1 = some (r1, r2, r3)) :
  Calls Try.prog 123 #[.pointer (some ⟨g, 0, none⟩), .int .i64 a1] w fun e w' => e = .returned (.bool r1) ∧ IsS121 w0 w' g s0_0 r2 r3 ∧ Below w0.heap.size w0 w' ∧ KeepBut w w' g none := by
 have HI0 := Aside0.mk hI; have HK := Aside0.mk (KeepBut.refl w g none); have HL := Aside0.mk hB.size; clear hI; have HW0 := Aside0.mk hB.size; have HB := Aside0.mk hB; clear hB; have H : ((spec_l1Below.f s0_0 s0_1 s0_2 a1).bind fun bt223 => (some ((bt223.1 == 0), bt223.2.1, bt223.2.2))) = some (r1, r2, r3) := h; clear h; replace H := Option.bind_eq_some_iff.mp H; obtain ⟨⟨t223, t224, t225⟩, A30, H⟩ := H; replace H : (some ((t223 == 0), t224, t225)) = some (r1, r2, r3) := H; have A3 := Aside0.mk A30; clear A30; simp only [Option.some.injEq, Prod.mk.injEq] at H; obtain ⟨rfl, rfl, rfl⟩ := H
 go_enter Try.func123, Try.ntmps123
 go_wp2_with (first | ((with_reducible refine gate_callee (f := 113) rfl ?_); refine goesL_ (some 7) rfl rfl Try.func113 (by kernel_rfl) rfl #[.pointer (some ⟨g, 0, none⟩), .int .i64 a1] rfl (by (try simp only [m3]); first | done | rfl | (simp only [d2]; rfl)) ?_; (with_reducible refine (spec_l1Below.calls g s0_0 s0_1 s0_2 a1 t223 t224 t225 w0 _ ?side1 ?side2 A3.out).mono ?_); (case side1 => repeat (first | (with_reducible first | exact HI0.out | apply IsS121.alloc | apply IsS121.drewN | apply IsS121.drew | apply IsS121.set_1 | apply IsS121.set_2) | exact HI0.out)); (case side2 => repeat (first | (with_reducible first | exact HB.out | apply below_alloc | apply pw_below_drewN | apply below_drew1 | refine below_set ?_ (IsS121.ge HI0.out)) | exact HB.out)); rintro e w4 ⟨rfl, hi, hb, hk⟩; refine ⟨_, rfl, ?_⟩; have n0_ := Aside0.mk (KeepBut.trans (by repeat (first | (with_reducible first | exact HK.out | apply KeepBut.set_ | apply keep_drewN | apply keep_drew | apply keep_alloc) | exact HK.out)) hk (.inl rfl)); have n1_ := Aside0.mk (hb); have n2_ := Aside0.mk (hi); clear HK; clear HB; clear HI0; have HK := n0_; have HB := n1_; have HI0 := n2_; clear n0_ n1_ n2_; (try clear hb); (try clear hb2); (try clear hk); (try clear hi)))
 go_ret; exact ⟨by first | rfl | (simp [errW_none, errW_some] <;> rfl) | (simp [*, errW_none, errW_some] <;> rfl), by repeat (first | (with_reducible first | exact HI0.out | apply IsS121.alloc | apply IsS121.drewN | apply IsS121.drew | apply IsS121.set_1 | apply IsS121.set_2) | exact HI0.out), by repeat (first | (with_reducible first | exact HB.out | apply below_alloc | apply pw_below_drewN | apply below_drew1 | refine below_set ?_ (IsS121.ge HI0.out)) | exact HB.out), by repeat (first | (with_reducible first | exact HK.out | apply KeepBut.set_ | apply keep_drewN | apply keep_drew | apply keep_alloc) | exact HK.out)⟩


/-! ### spec_l4DrawEdges: function 120 -/
def spec_l4DrawEdges.l0 : Nat → Int → Int → Int → List (S68) → Int → List Int → Int → Int → Option ((List (S68)) × Int × Int)
 | 0, _, _, _, _, _, _, _, _ => none
 | k + 1, x1, x2, x3, x9, x10, x1000, x1001, x1002 => if x10 < x3 then ((spec_l1Below.f x1000 x1001 x1002 x2).bind fun bt229 => ((spec_l1Below.f x1000 bt229.2.1 bt229.2.2 x1).bind fun bt232 => ((spec_l1Below.f x1000 bt232.2.1 bt232.2.2 x2).bind fun bt235 => ((spec_l1Once.f x1000 bt235.2.1 bt235.2.2 3).bind fun bt238 => (if x9.length < 4398046511104 then (spec_l4DrawEdges.l0 k x1 x2 x3 (x9 ++ [(⟨bt229.1, bt232.1, bt235.1, bt238.1⟩ : S68)]) (wrap64 (x10 + 1)) x1000 bt238.2.1 bt238.2.2) else (none)))))) else (some (x9, x1001, x1002))
def spec_l4DrawEdges.f (k : Nat) (s0_0 : List Int) (s0_1 : Int) (s0_2 : Int) (a1 : Int) (a2 : Int) (a3 : Int) : Option ((List (S68)) × Int × Int) := spec_l4DrawEdges.l0 k a1 a2 a3 (([] : List (S68))) 0 s0_0 s0_1 s0_2
theorem spec_l4DrawEdges.mono_l : ∀ k, (∀ y0 y1 y2 y3 y4 y5 y6 y7, LeO (spec_l4DrawEdges.l0 k y0 y1 y2 y3 y4 y5 y6 y7) (spec_l4DrawEdges.l0 (k + 1) y0 y1 y2 y3 y4 y5 y6 y7))
 | 0 => fun _ _ _ _ _ _ _ _ r h => by simp [spec_l4DrawEdges.l0] at h
 | k + 1 => by
  have ih0 := spec_l4DrawEdges.mono_l k
  ·intro y0 y1 y2 y3 y4 y5 y6 y7
   unfold spec_l4DrawEdges.l0
   repeat' first
   | (with_reducible exact ih0 _ _ _ _ _ _ _ _)
   | (with_reducible exact LeO.refl _)
   | (with_reducible exact LeO.none _)
   | (with_reducible refine LeO.ite ?_ ?_)
   | (with_reducible refine LeO.bind ?_ (fun _ => ?_))
   | exact ih0 _ _ _ _ _ _ _ _
   | exact LeO.none _
   | refine LeO.ite ?_ ?_
   | refine LeO.bind ?_ (fun _ => ?_)
theorem spec_l4DrawEdges.mono : ∀ a0 a1 a2 a3 a4 a5 k, LeO (spec_l4DrawEdges.f k a0 a1 a2 a3 a4 a5) (spec_l4DrawEdges.f (k + 1) a0 a1 a2 a3 a4 a5) := by
 intro a0 a1 a2 a3 a4 a5 k
 have ih0 := spec_l4DrawEdges.mono_l k
 unfold spec_l4DrawEdges.f
 repeat' first
   | (with_reducible exact ih0 _ _ _ _ _ _ _ _)
   | (with_reducible exact LeO.refl _)
   | (with_reducible exact LeO.none _)
   | (with_reducible refine LeO.ite ?_ ?_)
   | (with_reducible refine LeO.bind ?_ (fun _ => ?_))
   | exact ih0 _ _ _ _ _ _ _ _
   | exact LeO.none _
   | refine LeO.ite ?_ ?_
   | refine LeO.bind ?_ (fun _ => ?_)
open Go.Proofs.Ytlallflpicgcmaa.Short2 in
set_option maxHeartbeats 8000000 in
set_option maxRecDepth 100000 in
theorem spec_l4DrawEdges.calls (k : Nat) (g : Nat) (s0_0 : List Int) (s0_1 : Int) (s0_2 : Int) (a1 : Int) (a2 : Int) (a3 : Int) (r1 : List (S68)) (r2 : Int) (r3 : Int) (w0 w : World) (hI : IsS121 w0 w g s0_0 s0_1 s0_2) (hB : Below w0.heap.size w0 w) (h : spec_l4DrawEdges.f k s0_0 s0_1 s0_2 a1 a2 a3 = some (r1, r2, r3)) :
  Calls Try.prog 120 #[.pointer (some ⟨g, 0, none⟩), .int .i64 a1, .int .i64 a2, .int .i64 a3] w fun e w' => ∃ v0_ : Value, e = .returned (v0_) ∧ Kd.R k68 68 w' w.heap.size (fun _ => True) v0_ r1 ∧ IsS121 w0 w' g s0_0 r2 r3 ∧ Below w0.heap.size w0 w' ∧ KeepBut w w' g none := by
 have hu68 := Try.underlying68; have HI0 := Aside0.mk hI; have HK := Aside0.mk (KeepBut.refl w g none); have HL := Aside0.mk hB.size; clear hI; have HW0 := Aside0.mk hB.size; have HB := Aside0.mk hB; clear hB; have H : (spec_l4DrawEdges.l0 k a1 a2 a3 (([] : List (S68))) 0 s0_0 s0_1 s0_2) = some (r1, r2, r3) := h; clear h; obtain ⟨y226, hy226⟩ : ∃ y_ : List (S68), y_ = (([] : List (S68))) := ⟨_, rfl⟩
 replace H : (spec_l4DrawEdges.l0 k a1 a2 a3 y226 0 s0_0 s0_1 s0_2) = some (r1, r2, r3) := by first | (rw [hy226]; with_reducible exact H) | (have H2_ := (Option.bind_some _ _).symm.trans H; rw [hy226]; with_reducible exact H2_) | (have H2_ := (Option.bind_some _ _).symm.trans H; with_reducible exact H2_) | with_reducible exact H | (rw [hy226]; exact H) | exact H
 have Ny226 := Aside0.mk hy226; clear hy226; have H' := Aside0.mk H; clear H
 go_enter Try.func120, Try.ntmps120
 go_wp2_with (first | ((with_reducible refine gate_dst (N := 11) rfl ?_); refine Kd.R_lit k68 _ 68 ?hg (N := 11) ?hd (xs := ([] : List (S68))) (inner := []) (ok := fun _ => True) (okp := fun _ => True) ?hr ?hp (fun _ hk => hk) trivial (Below.refl _ _) (Nat.le_refl _) (by simp) ?_; (case hd => rfl); (case hg => rfl); (case hr => first | (go_simp; done) | (go_simp; rfl)); (case hp => exact (Reps.none _ _)); intro v227 w5 ho6 hb hg_ hnew_; clear hg_ hnew_; (first | rw [← Ny226.out] at ho6 | (simp only [Int.reduceToNat] at ho6; rw [← Ny226.out] at ho6)); have n0_ := Aside0.mk (Kd.R_lower ho6 (keep_size (w := w) (g := g) (row := none) (by repeat (first | (with_reducible first | exact HK.out | apply KeepBut.set_ | apply keep_drewN | apply keep_drew | apply keep_alloc) | exact HK.out)))); have n1_ := Aside0.mk (IsS121.below (by repeat (first | (with_reducible first | exact HI0.out | apply IsS121.alloc | apply IsS121.drewN | apply IsS121.drew | apply IsS121.set_1 | apply IsS121.set_2) | exact HI0.out)) hb); have n2_ := Aside0.mk (KeepBut.trans (by repeat (first | (with_reducible first | exact HK.out | apply KeepBut.set_ | apply keep_drewN | apply keep_drew | apply keep_alloc) | exact HK.out)) (KeepBut.of_below hb g none) (.inl rfl)); have n3_ := Aside0.mk (below_step (by repeat (first | (with_reducible first | exact HB.out | apply below_alloc | apply pw_below_drewN | apply below_drew1 | refine below_set ?_ (IsS121.ge HI0.out)) | exact HB.out)) hb); clear HI0; clear HK; clear HB; have HO228 := n0_; have HI0 := n1_; have HK := n2_; have HB := n3_; clear n0_ n1_ n2_ n3_; clear hb ho6))
 go_loopg [9, 10] k (fun kq v9 v10 w' => ∃ (x9_1 : List (S68)) (x10_1 : Int) (x1001_1 : Int) (x1002_1 : Int), v10 = .int .i64 x10_1 ∧ Aside0 (spec_l4DrawEdges.l0 kq a1 a2 a3 x9_1 x10_1 s0_0 x1001_1 x1002_1 = some (r1, r2, r3)) ∧ Aside0 (kq ≤ k) ∧ Aside0 (Kd.R k68 68 w' w.heap.size (fun _ => True) v9 x9_1) ∧ Aside0 (IsS121 w0 w' g s0_0 x1001_1 x1002_1) ∧ Aside0 (KeepBut w w' g none) ∧ Aside0 (Below w0.heap.size w0 w'))
 case atStart => exact ⟨(y226), (0), (s0_1), (s0_2), (by first | rfl | (simp; done) | (simp [*]; done) | (rw [Int.tmod_eq_emod_of_nonneg (Int.natCast_nonneg _)]; done)), H', ⟨Nat.le_refl _⟩, ⟨zR HO228.out⟩, ⟨by repeat (first | (with_reducible first | exact HI0.out | apply IsS121.alloc | apply IsS121.drewN | apply IsS121.drew | apply IsS121.set_1 | apply IsS121.set_2) | exact HI0.out)⟩, ⟨by repeat (first | (with_reducible first | exact HK.out | apply KeepBut.set_ | apply keep_drewN | apply keep_drew | apply keep_alloc) | exact HK.out)⟩, ⟨by repeat (first | (with_reducible first | exact HB.out | apply below_alloc | apply pw_below_drewN | apply below_drew1 | refine below_set ?_ (IsS121.ge HI0.out)) | exact HB.out)⟩⟩
 case round =>
  clear H'
  try clear c1
  try clear p2
  obtain ⟨x9_1, x10_1, x1001_1, x1002_1, rfl, HA, HK1, HO_9, HI0, HK, HB⟩ := hrel
  cases gk with
  | zero => exact absurd HA.out (by simp [spec_l4DrawEdges.l0])
  | succ k1 =>
   have H := HA.out; clear HA; simp only [spec_l4DrawEdges.l0] at H
   by_cases c7 : x10_1 < a3
   ·rw [if_pos c7] at H; have c7b0 : decide (x10_1 < a3) = true := decide_eq_true c7; clear c7; replace H := Option.bind_eq_some_iff.mp H; obtain ⟨⟨t229, t230, t231⟩, A80, H⟩ := H; replace H : ((spec_l1Below.f s0_0 t230 t231 a1).bind fun bt232 => ((spec_l1Below.f s0_0 bt232.2.1 bt232.2.2 a2).bind fun bt235 => ((spec_l1Once.f s0_0 bt235.2.1 bt235.2.2 3).bind fun bt238 => (if x9_1.length < 4398046511104 then (spec_l4DrawEdges.l0 k1 a1 a2 a3 (x9_1 ++ [(⟨t229, bt232.1, bt235.1, bt238.1⟩ : S68)]) (wrap64 (x10_1 + 1)) s0_0 bt238.2.1 bt238.2.2) else (none))))) = some (r1, r2, r3) := H; have A8 := Aside0.mk A80; clear A80; replace H := Option.bind_eq_some_iff.mp H; obtain ⟨⟨t232, t233, t234⟩, A90, H⟩ := H; replace H : ((spec_l1Below.f s0_0 t233 t234 a2).bind fun bt235 => ((spec_l1Once.f s0_0 bt235.2.1 bt235.2.2 3).bind fun bt238 => (if x9_1.length < 4398046511104 then (spec_l4DrawEdges.l0 k1 a1 a2 a3 (x9_1 ++ [(⟨t229, t232, bt235.1, bt238.1⟩ : S68)]) (wrap64 (x10_1 + 1)) s0_0 bt238.2.1 bt238.2.2) else (none)))) = some (r1, r2, r3) := H; have A9 := Aside0.mk A90; clear A90; replace H := Option.bind_eq_some_iff.mp H; obtain ⟨⟨t235, t236, t237⟩, A100, H⟩ := H; replace H : ((spec_l1Once.f s0_0 t236 t237 3).bind fun bt238 => (if x9_1.length < 4398046511104 then (spec_l4DrawEdges.l0 k1 a1 a2 a3 (x9_1 ++ [(⟨t229, t232, t235, bt238.1⟩ : S68)]) (wrap64 (x10_1 + 1)) s0_0 bt238.2.1 bt238.2.2) else (none))) = some (r1, r2, r3) := H; have A10 := Aside0.mk A100; clear A100; replace H := Option.bind_eq_some_iff.mp H; obtain ⟨⟨t238, t239, t240⟩, A110, H⟩ := H; replace H : (if x9_1.length < 4398046511104 then (spec_l4DrawEdges.l0 k1 a1 a2 a3 (x9_1 ++ [(⟨t229, t232, t235, t238⟩ : S68)]) (wrap64 (x10_1 + 1)) s0_0 t239 t240) else (none)) = some (r1, r2, r3) := H; have A11 := Aside0.mk A110; clear A110
    by_cases c12 : x9_1.length < 4398046511104
    ·rw [if_pos c12] at H; have LMc12 := Aside0.mk c12; clear c12; obtain ⟨y241, hy241⟩ : ∃ y_ : List (S68), y_ = (x9_1 ++ [(⟨t229, t232, t235, t238⟩ : S68)]) := ⟨_, rfl⟩
     replace H : (spec_l4DrawEdges.l0 k1 a1 a2 a3 y241 (wrap64 (x10_1 + 1)) s0_0 t239 t240) = some (r1, r2, r3) := by first | (rw [hy241]; with_reducible exact H) | (have H2_ := (Option.bind_some _ _).symm.trans H; rw [hy241]; with_reducible exact H2_) | (have H2_ := (Option.bind_some _ _).symm.trans H; with_reducible exact H2_) | with_reducible exact H | (rw [hy241]; exact H) | exact H
     have Ny241 := Aside0.mk hy241; clear hy241; have H' := Aside0.mk H; clear H
     go_wp2_with (first | ((with_reducible refine gate_callee (f := 113) rfl ?_); refine goesL_ (some 20) rfl rfl Try.func113 (by kernel_rfl) rfl #[.pointer (some ⟨g, 0, none⟩), .int .i64 a2] rfl (by (try simp only [m3]); first | done | rfl | (simp only [d2]; rfl)) ?_; (with_reducible refine (spec_l1Below.calls g s0_0 x1001_1 x1002_1 a2 t229 t230 t231 w0 _ ?side1 ?side2 A8.out).mono ?_); (case side1 => repeat (first | (with_reducible first | exact HI0.out | apply IsS121.alloc | apply IsS121.drewN | apply IsS121.drew | apply IsS121.set_1 | apply IsS121.set_2) | exact HI0.out)); (case side2 => repeat (first | (with_reducible first | exact HB.out | apply below_alloc | apply pw_below_drewN | apply below_drew1 | refine below_set ?_ (IsS121.ge HI0.out)) | exact HB.out)); rintro e w13 ⟨rfl, hi, hb, hk⟩; refine ⟨_, rfl, ?_⟩; have n0_ := Aside0.mk (Kd.R_mono (Kd.R_keep (IsS121.apart (show IsS121 w0 _ g s0_0 x1001_1 x1002_1 from by repeat (first | (with_reducible first | exact HI0.out | apply IsS121.alloc | apply IsS121.drewN | apply IsS121.drew | apply IsS121.set_1 | apply IsS121.set_2) | exact HI0.out)) (zR HO_9.out) (by decide)) hk (fun _ h => h.2)) (fun _ h => h.1)); have n1_ := Aside0.mk (KeepBut.trans (by repeat (first | (with_reducible first | exact HK.out | apply KeepBut.set_ | apply keep_drewN | apply keep_drew | apply keep_alloc) | exact HK.out)) hk (.inl rfl)); have n2_ := Aside0.mk (hb); have n3_ := Aside0.mk (hi); clear HO_9; clear HK; clear HB; clear HI0; have HO_9 := n0_; have HK := n1_; have HB := n2_; have HI0 := n3_; clear n0_ n1_ n2_ n3_; (try clear hb); (try clear hb2); (try clear hk); (try clear hi)) | ((with_reducible refine gate_callee (f := 113) rfl ?_); refine goesL_ (some 23) rfl rfl Try.func113 (by kernel_rfl) rfl #[.pointer (some ⟨g, 0, none⟩), .int .i64 a1] rfl (by (try simp only [m3]); first | done | rfl | (simp only [d2]; rfl)) ?_; (with_reducible refine (spec_l1Below.calls g s0_0 t230 t231 a1 t232 t233 t234 w0 _ ?side1 ?side2 A9.out).mono ?_); (case side1 => repeat (first | (with_reducible first | exact HI0.out | apply IsS121.alloc | apply IsS121.drewN | apply IsS121.drew | apply IsS121.set_1 | apply IsS121.set_2) | exact HI0.out)); (case side2 => repeat (first | (with_reducible first | exact HB.out | apply below_alloc | apply pw_below_drewN | apply below_drew1 | refine below_set ?_ (IsS121.ge HI0.out)) | exact HB.out)); rintro e w14 ⟨rfl, hi, hb, hk⟩; refine ⟨_, rfl, ?_⟩; have n0_ := Aside0.mk (Kd.R_mono (Kd.R_keep (IsS121.apart (show IsS121 w0 _ g s0_0 t230 t231 from by repeat (first | (with_reducible first | exact HI0.out | apply IsS121.alloc | apply IsS121.drewN | apply IsS121.drew | apply IsS121.set_1 | apply IsS121.set_2) | exact HI0.out)) (zR HO_9.out) (by decide)) hk (fun _ h => h.2)) (fun _ h => h.1)); have n1_ := Aside0.mk (KeepBut.trans (by repeat (first | (with_reducible first | exact HK.out | apply KeepBut.set_ | apply keep_drewN | apply keep_drew | apply keep_alloc) | exact HK.out)) hk (.inl rfl)); have n2_ := Aside0.mk (hb); have n3_ := Aside0.mk (hi); clear HO_9; clear HK; clear HB; clear HI0; have HO_9 := n0_; have HK := n1_; have HB := n2_; have HI0 := n3_; clear n0_ n1_ n2_ n3_; (try clear hb); (try clear hb2); (try clear hk); (try clear hi)) | ((with_reducible refine gate_callee (f := 113) rfl ?_); refine goesL_ (some 26) rfl rfl Try.func113 (by kernel_rfl) rfl #[.pointer (some ⟨g, 0, none⟩), .int .i64 a2] rfl (by (try simp only [m3]); first | done | rfl | (simp only [d2]; rfl)) ?_; (with_reducible refine (spec_l1Below.calls g s0_0 t233 t234 a2 t235 t236 t237 w0 _ ?side1 ?side2 A10.out).mono ?_); (case side1 => repeat (first | (with_reducible first | exact HI0.out | apply IsS121.alloc | apply IsS121.drewN | apply IsS121.drew | apply IsS121.set_1 | apply IsS121.set_2) | exact HI0.out)); (case side2 => repeat (first | (with_reducible first | exact HB.out | apply below_alloc | apply pw_below_drewN | apply below_drew1 | refine below_set ?_ (IsS121.ge HI0.out)) | exact HB.out)); rintro e w15 ⟨rfl, hi, hb, hk⟩; refine ⟨_, rfl, ?_⟩; have n0_ := Aside0.mk (Kd.R_mono (Kd.R_keep (IsS121.apart (show IsS121 w0 _ g s0_0 t233 t234 from by repeat (first | (with_reducible first | exact HI0.out | apply IsS121.alloc | apply IsS121.drewN | apply IsS121.drew | apply IsS121.set_1 | apply IsS121.set_2) | exact HI0.out)) (zR HO_9.out) (by decide)) hk (fun _ h => h.2)) (fun _ h => h.1)); have n1_ := Aside0.mk (KeepBut.trans (by repeat (first | (with_reducible first | exact HK.out | apply KeepBut.set_ | apply keep_drewN | apply keep_drew | apply keep_alloc) | exact HK.out)) hk (.inl rfl)); have n2_ := Aside0.mk (hb); have n3_ := Aside0.mk (hi); clear HO_9; clear HK; clear HB; clear HI0; have HO_9 := n0_; have HK := n1_; have HB := n2_; have HI0 := n3_; clear n0_ n1_ n2_ n3_; (try clear hb); (try clear hb2); (try clear hk); (try clear hi)) | ((with_reducible refine gate_callee (f := 123) rfl ?_); refine goesL_ (some 28) rfl rfl Try.func123 (by kernel_rfl) rfl #[.pointer (some ⟨g, 0, none⟩), .int .i64 3] rfl (by (try simp only [m3]); first | done | rfl | (simp only [d2]; rfl)) ?_; (with_reducible refine (spec_l1Once.calls g s0_0 t236 t237 3 t238 t239 t240 w0 _ ?side1 ?side2 A11.out).mono ?_); (case side1 => repeat (first | (with_reducible first | exact HI0.out | apply IsS121.alloc | apply IsS121.drewN | apply IsS121.drew | apply IsS121.set_1 | apply IsS121.set_2) | exact HI0.out)); (case side2 => repeat (first | (with_reducible first | exact HB.out | apply below_alloc | apply pw_below_drewN | apply below_drew1 | refine below_set ?_ (IsS121.ge HI0.out)) | exact HB.out)); rintro e w16 ⟨rfl, hi, hb, hk⟩; refine ⟨_, rfl, ?_⟩; have n0_ := Aside0.mk (Kd.R_mono (Kd.R_keep (IsS121.apart (show IsS121 w0 _ g s0_0 t236 t237 from by repeat (first | (with_reducible first | exact HI0.out | apply IsS121.alloc | apply IsS121.drewN | apply IsS121.drew | apply IsS121.set_1 | apply IsS121.set_2) | exact HI0.out)) (zR HO_9.out) (by decide)) hk (fun _ h => h.2)) (fun _ h => h.1)); have n1_ := Aside0.mk (KeepBut.trans (by repeat (first | (with_reducible first | exact HK.out | apply KeepBut.set_ | apply keep_drewN | apply keep_drew | apply keep_alloc) | exact HK.out)) hk (.inl rfl)); have n2_ := Aside0.mk (hb); have n3_ := Aside0.mk (hi); clear HO_9; clear HK; clear HB; clear HI0; have HO_9 := n0_; have HK := n1_; have HB := n2_; have HI0 := n3_; clear n0_ n1_ n2_ n3_; (try clear hb); (try clear hb2); (try clear hk); (try clear hi)) | ((with_reducible refine gate_builtin (b := .append) (xs := #[.tmp 17, .tmp 30]) rfl ?_); at_builtin; refine Kd.R_append k68 w.heap.size rfl (.tmp 17) (.tmp 30) 22 68 (.agg #[(.int .i64 0), (.int .i64 0), (.int .i64 0), (.bool false)]) 32 rfl Try.underlying22 info68 rfl (by decide) (by omega) u9 x9_1 (⟨t229, t232, t235, t238⟩ : S68) [.int .i64 t229, .int .i64 t232, .int .i64 t235, .bool t238] (fun _ => True) (fun _ => False) rfl rfl ?aP (fun _ hk => hk.elim) ?aF ?aO (Below.refl _ _) ?aS ?aL ?_; (case aP => exact k68_mkM _ _ _ (⟨t229, t232, t235, t238⟩ : S68)); (case aF => exact (fun _ _ => trivial)); (case aO => exact (zR HO_9.out)); (case aS => exact (keep_size (w := w) (g := g) (row := none) (by repeat (first | (with_reducible first | exact HK.out | apply KeepBut.set_ | apply keep_drewN | apply keep_drew | apply keep_alloc) | exact HK.out)))); (case aL => have := LMc12.out; omega); intro v242 w17 ho hb hg hat; rw [← Ny241.out] at ho; have n0_ := Aside0.mk (IsS121.grown (by repeat (first | (with_reducible first | exact HI0.out | apply IsS121.alloc | apply IsS121.drewN | apply IsS121.drew | apply IsS121.set_1 | apply IsS121.set_2) | exact HI0.out)) hg (IsS121.own_ne HI0.out HO_9.out (by decide))); have n1_ := Aside0.mk (below_weaken (by repeat (first | (with_reducible first | exact HB.out | apply below_alloc | apply pw_below_drewN | apply below_drew1 | refine below_set ?_ (IsS121.ge HI0.out)) | exact HB.out)) HL.out hb); have n2_ := Aside0.mk (KeepBut.trans (by repeat (first | (with_reducible first | exact HK.out | apply KeepBut.set_ | apply keep_drewN | apply keep_drew | apply keep_alloc) | exact HK.out)) (KeepBut.of_grown hg g) (Kd.R_base2 HO_9.out)); have n3_ := Aside0.mk (ho); clear HI0; clear HB; clear HK; clear HO_9; have HI0 := n0_; have HB := n1_; have HK := n2_; have HO243 := n3_; clear n0_ n1_ n2_ n3_; clear ho hb hg hat))
     go_roundg k1
     case measure => have := HK1.out; omega
     case rel => exact ⟨(y241), (wrap64 (x10_1 + 1)), (t239), (t240), (by first | rfl | (simp; done) | (simp [*]; done) | (rw [Int.tmod_eq_emod_of_nonneg (Int.natCast_nonneg _)]; done)), H', ⟨by have := HK1.out; omega⟩, ⟨zR HO243.out⟩, ⟨by repeat (first | (with_reducible first | exact HI0.out | apply IsS121.alloc | apply IsS121.drewN | apply IsS121.drew | apply IsS121.set_1 | apply IsS121.set_2) | exact HI0.out)⟩, ⟨by repeat (first | (with_reducible first | exact HK.out | apply KeepBut.set_ | apply keep_drewN | apply keep_drew | apply keep_alloc) | exact HK.out)⟩, ⟨by repeat (first | (with_reducible first | exact HB.out | apply below_alloc | apply pw_below_drewN | apply below_drew1 | refine below_set ?_ (IsS121.ge HI0.out)) | exact HB.out)⟩⟩
    ·rw [if_neg c12] at H; exact absurd H (by simp)
   ·rw [if_neg c7] at H; have c7b0 : decide (x10_1 < a3) = false := decide_eq_false c7; clear c7; simp only [Option.some.injEq, Prod.mk.injEq] at H; obtain ⟨rfl, rfl, rfl⟩ := H
    go_wp2
    go_ret; exact ⟨_, by first | rfl | (simp [errW_none, errW_some] <;> rfl) | (simp [*, errW_none, errW_some] <;> rfl), by (with_reducible repeat (first | apply Kd.R_alloc | apply Kd.R_drewN | apply Kd.R_drew)); exact HO_9.out, by repeat (first | (with_reducible first | exact HI0.out | apply IsS121.alloc | apply IsS121.drewN | apply IsS121.drew | apply IsS121.set_1 | apply IsS121.set_2) | exact HI0.out), by repeat (first | (with_reducible first | exact HB.out | apply below_alloc | apply pw_below_drewN | apply below_drew1 | refine below_set ?_ (IsS121.ge HI0.out)) | exact HB.out), by repeat (first | (with_reducible first | exact HK.out | apply KeepBut.set_ | apply keep_drewN | apply keep_drew | apply keep_alloc) | exact HK.out)⟩

end Go.Proofs.Ytlallflpicgcmaa.MFnReach4
