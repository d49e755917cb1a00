-- Written by a program of this session, out of Lean's print of the translation. Not trusted: Lean checks it.
import Derived.Test.YtigmokdcanebeaaMFnExactAutoMakex0
import Derived.Test.YtigmokdcanebeaaMFnExactAutoMakex2
import Derived.Test.YtigmokdcanebeaaMFnExactAutoMakex4
namespace Go.Proofs.Ytigmokdcanebeaa.MFnExactAutoMake
open Go.RowKit Go.Proofs.YtigmokdcanebeaaW.PrintWords Go.Proofs.YtigmokdcanebeaaW.PrintLast Go.Proofs.YtigmokdcanebeaaW.PrintMore
attribute [local go_sem] max2_int min2_int max_two min_two max_three min_three max_four min_four   -- for this text's walks alone
set_option linter.unusedVariables false
set_option linter.unusedSimpArgs false

section
open Go.Proofs.Ytigmokdcanebeaa.Short2.T
abbrev spec_AutoMake.bl0 : Array Bool := #[f, f, f, f, f, f, f, f, f, f, f, f, f, f, f, f, f, f, f, f, f, f, f, f, f]
abbrev spec_AutoMake.bl1 : Array Bool := #[t, f, f, f, f, f, f, f, f, f, f, f, f, f, f, f, f, f, f, f, f, f, f, f, f]
abbrev spec_AutoMake.bl2 : Array Bool := #[t, f, t, f, f, f, f, f, f, f, f, f, f, f, f, f, f, f, f, f, f, f, f, f, f]
abbrev spec_AutoMake.bl3 : Array Bool := #[t, f, t, t, f, f, f, f, f, f, f, f, f, f, f, f, f, f, f, f, f, f, f, f, f]
abbrev spec_AutoMake.bl4 : Array Bool := #[t, f, t, t, t, f, f, f, f, f, f, f, f, f, f, f, f, f, f, f, f, f, f, f, f]
abbrev spec_AutoMake.bl5 : Array Bool := #[t, f, t, t, t, t, f, f, f, f, f, f, f, f, f, f, f, f, f, f, f, f, f, f, f]
abbrev spec_AutoMake.bl6 : Array Bool := #[t, f, t, t, t, t, t, f, f, f, f, f, f, f, f, f, f, f, f, f, f, f, f, f, f]
abbrev spec_AutoMake.bl7 : Array Bool := #[t, f, t, t, t, t, t, t, f, f, f, f, f, f, f, f, f, f, f, f, f, f, f, f, f]
abbrev spec_AutoMake.bl8 : Array Bool := #[t, f, t, t, t, t, t, t, t, f, f, f, f, f, f, f, f, f, f, f, f, f, f, f, f]
abbrev spec_AutoMake.bl9 : Array Bool := #[t, f, t, t, t, t, t, t, t, t, f, f, f, f, f, f, f, f, f, f, f, f, f, f, f]
abbrev spec_AutoMake.bl10 : Array Bool := #[t, f, t, t, t, t, t, t, t, t, t, f, f, f, f, f, f, f, f, f, f, f, f, f, f]
abbrev spec_AutoMake.bl11 : Array Bool := #[t, f, t, t, t, t, t, t, t, t, t, t, f, f, f, f, f, f, f, f, f, f, f, f, f]
abbrev spec_AutoMake.bl12 : Array Bool := #[t, f, t, t, t, t, t, t, t, t, t, t, t, f, f, f, f, f, f, f, f, f, f, f, f]
abbrev spec_AutoMake.bl13 : Array Bool := #[t, f, t, t, t, t, t, t, t, t, t, t, t, t, f, f, f, f, f, f, f, f, f, f, f]
abbrev spec_AutoMake.bl14 : Array Bool := #[t, f, t, t, t, t, t, t, t, t, t, t, t, t, t, f, f, f, f, f, f, f, f, f, f]
abbrev spec_AutoMake.bl15 : Array Bool := #[t, f, t, t, t, t, t, t, t, t, t, t, t, t, t, t, f, f, f, f, f, f, f, f, f]
abbrev spec_AutoMake.bl16 : Array Bool := #[t, f, t, t, t, t, t, t, t, t, t, t, t, t, t, t, t, f, f, f, f, f, f, f, f]
abbrev spec_AutoMake.bl17 : Array Bool := #[t, f, t, t, t, t, t, t, t, t, t, t, t, t, t, t, t, t, f, f, f, f, f, f, f]
abbrev spec_AutoMake.bl18 : Array Bool := #[t, t, t, t, t, t, t, t, t, t, t, t, t, t, t, t, t, t, f, f, f, f, f, f, f]
abbrev spec_AutoMake.bl19 : Array Bool := #[t, t, t, t, t, t, t, t, t, t, t, t, t, t, t, t, t, t, t, f, f, f, f, f, f]
abbrev spec_AutoMake.bl20 : Array Bool := #[t, t, t, t, t, t, t, t, t, t, t, t, t, t, t, t, t, t, t, t, f, f, f, f, f]
abbrev spec_AutoMake.bl21 : Array Bool := #[t, t, t, t, t, t, t, t, t, t, t, t, t, t, t, t, t, t, t, t, t, f, f, f, f]
abbrev spec_AutoMake.bl22 : Array Bool := #[t, t, t, t, t, t, t, t, t, t, t, t, t, t, t, t, t, t, t, t, t, t, f, f, f]
abbrev spec_AutoMake.bl23 : Array Bool := #[t, t, t, t, t, t, t, t, t, t, t, t, t, t, t, t, t, t, t, t, t, t, t, f, f]
abbrev spec_AutoMake.bl24 : Array Bool := #[t, t, t, t, t, t, t, t, t, t, t, t, t, t, t, t, t, t, t, t, t, t, t, t, f]
abbrev spec_AutoMake.bl25 : Array Bool := #[t, t, t, t, t, t, t, t, t, t, t, t, t, t, t, t, t, t, t, t, t, t, t, t, t]
end
/-! ### spec_AutoMake: function 8 -/
mutual
def spec_AutoMake.j0 : Nat → Int → Int → List (S33) → Bool → Int → Int → Int → Option (Int × Int × Int × (List (S33)) × Bool)
 | 0, _, _, _, _, _, _, _ => none
 | k + 1, x0, x1, x3, x28, x178000, x178001, x178002 => if x28 = true then (some (0, 0, 0, ([] : List (S33)), false)) else (if 0 ≤ (wrap64 ((wrap64 (x1 * x0)) * x1)) then (if (wrap64 ((wrap64 (x1 * x0)) * x1) : Int).toNat ≤ 35184372088832 then (spec_AutoMake.l0 k x0 x1 x3 (List.replicate (wrap64 ((wrap64 (x1 * x0)) * x1) : Int).toNat 0) 0 x178000 x178001 x178002) else (none)) else (none))
def spec_AutoMake.l0 : Nat → Int → Int → List (S33) → List Int → Int → Int → Int → Int → Option (Int × Int × Int × (List (S33)) × Bool)
 | 0, _, _, _, _, _, _, _, _ => none
 | k + 1, x0, x1, x3, x11, x12, x178000, x178001, x178002 => if x12 < (x3.length : Int) then (if 0 ≤ x12 then ((spec_l4State.f ((rd_T33 x3 x12).f0) x1).bind fun t184 => (if t184 = true then ((spec_l4State.f ((rd_T33 x3 x12).f2) x1).bind fun t185 => (if t185 = true then ((spec_l1In.f ((rd_T33 x3 x12).f1) 0 (wrap64 (x0 - 1))).bind fun t186 => (spec_AutoMake.j2 k x0 x1 x3 x11 x12 (!t186) x178000 x178001 x178002 ((rd_T33 x3 x12).f0) ((rd_T33 x3 x12).f1) ((rd_T33 x3 x12).f2) ((rd_T33 x3 x12).f3))) else (spec_AutoMake.j2 k x0 x1 x3 x11 x12 true x178000 x178001 x178002 ((rd_T33 x3 x12).f0) ((rd_T33 x3 x12).f1) ((rd_T33 x3 x12).f2) ((rd_T33 x3 x12).f3)))) else (spec_AutoMake.j2 k x0 x1 x3 x11 x12 true x178000 x178001 x178002 ((rd_T33 x3 x12).f0) ((rd_T33 x3 x12).f1) ((rd_T33 x3 x12).f2) ((rd_T33 x3 x12).f3)))) else (none)) else (spec_AutoMake.l1 k x0 x1 x11 0 x178000 x178001 x178002 ([] : List (S33)))
def spec_AutoMake.j2 : Nat → Int → Int → List (S33) → List Int → Int → Bool → Int → Int → Int → Int → Int → Int → Bool → Option (Int × Int × Int × (List (S33)) × Bool)
 | 0, _, _, _, _, _, _, _, _, _, _, _, _, _ => none
 | k + 1, x0, x1, x3, x11, x12, x65, x178000, x178001, x178002, x184000, x184001, x184002, x184003 => if x65 = true then (some (0, 0, 0, ([] : List (S33)), false)) else (if x184003 = true then (if 0 ≤ (wrap64 ((wrap64 ((wrap64 ((wrap64 (x184000 * x0)) + x184001)) * x1)) + x184002)) then (if (wrap64 ((wrap64 ((wrap64 ((wrap64 (x184000 * x0)) + x184001)) * x1)) + x184002)) < (x11.length : Int) then ((spec_l1Max.f (rd x11 (wrap64 ((wrap64 ((wrap64 ((wrap64 (x184000 * x0)) + x184001)) * x1)) + x184002))) 2).bind fun t188 => (spec_AutoMake.l0 k x0 x1 x3 (x11.set ((wrap64 ((wrap64 ((wrap64 ((wrap64 (x184000 * x0)) + x184001)) * x1)) + x184002)) : Int).toNat t188) (wrap64 (x12 + 1)) x178000 x178001 x178002)) else (none)) else (none)) else (if 0 ≤ (wrap64 ((wrap64 ((wrap64 ((wrap64 (x184000 * x0)) + x184001)) * x1)) + x184002)) then (if (wrap64 ((wrap64 ((wrap64 ((wrap64 (x184000 * x0)) + x184001)) * x1)) + x184002)) < (x11.length : Int) then ((spec_l1Max.f (rd x11 (wrap64 ((wrap64 ((wrap64 ((wrap64 (x184000 * x0)) + x184001)) * x1)) + x184002))) 1).bind fun t191 => (spec_AutoMake.l0 k x0 x1 x3 (x11.set ((wrap64 ((wrap64 ((wrap64 ((wrap64 (x184000 * x0)) + x184001)) * x1)) + x184002)) : Int).toNat t191) (wrap64 (x12 + 1)) x178000 x178001 x178002)) else (none)) else (none)))
def spec_AutoMake.l1 : Nat → Int → Int → List Int → Int → Int → Int → Int → List (S33) → Option (Int × Int × Int × (List (S33)) × Bool)
 | 0, _, _, _, _, _, _, _, _ => none
 | k + 1, x0, x1, x11, x16, x178000, x178001, x178002, x178003 => if x16 < (x11.length : Int) then (if 0 ≤ x16 then (if (rd x11 x16) > 0 then (if x1 = 0 then (none) else (if x0 = 0 then (none) else (if x178003.length < 4398046511104 then (spec_AutoMake.l1 k x0 x1 x11 (wrap64 (x16 + 1)) x178000 x178001 x178002 (x178003 ++ [(⟨wrap64 (Int.tdiv (wrap64 (Int.tdiv x16 x1)) x0), Int.tmod (wrap64 (Int.tdiv x16 x1)) x0, Int.tmod x16 x1, ((rd x11 x16) == 2)⟩ : S33)])) else (none)))) else (spec_AutoMake.l1 k x0 x1 x11 (wrap64 (x16 + 1)) x178000 x178001 x178002 x178003)) else (none)) else (some (x178000, x178001, x178002, x178003, true))
end
def spec_AutoMake.f (k : Nat) (a0 : Int) (a1 : Int) (a2 : Int) (l3 : List (S33)) : Option (Int × Int × Int × (List (S33)) × Bool) := (spec_AutoOk.f k a0 a1 a2 ([] : List (S33))).bind fun t178 => (if t178 = true then (spec_AutoMake.j0 k a0 a1 l3 (decide ((l3.length : Int) > 2000)) a0 a1 a2) else (spec_AutoMake.j0 k a0 a1 l3 true a0 a1 a2))
theorem spec_AutoMake.mono_l : ∀ k, (∀ y0 y1 y2 y3 y4 y5 y6, LeO (spec_AutoMake.j0 k y0 y1 y2 y3 y4 y5 y6) (spec_AutoMake.j0 (k + 1) y0 y1 y2 y3 y4 y5 y6)) ∧ (∀ y0 y1 y2 y3 y4 y5 y6 y7, LeO (spec_AutoMake.l0 k y0 y1 y2 y3 y4 y5 y6 y7) (spec_AutoMake.l0 (k + 1) y0 y1 y2 y3 y4 y5 y6 y7)) ∧ (∀ y0 y1 y2 y3 y4 y5 y6 y7 y8 y9 y10 y11 y12, LeO (spec_AutoMake.j2 k y0 y1 y2 y3 y4 y5 y6 y7 y8 y9 y10 y11 y12) (spec_AutoMake.j2 (k + 1) y0 y1 y2 y3 y4 y5 y6 y7 y8 y9 y10 y11 y12)) ∧ (∀ y0 y1 y2 y3 y4 y5 y6 y7, LeO (spec_AutoMake.l1 k y0 y1 y2 y3 y4 y5 y6 y7) (spec_AutoMake.l1 (k + 1) y0 y1 y2 y3 y4 y5 y6 y7))
 | 0 => ⟨fun _ _ _ _ _ _ _ r h => by simp [spec_AutoMake.j0] at h, fun _ _ _ _ _ _ _ _ r h => by simp [spec_AutoMake.l0] at h, fun _ _ _ _ _ _ _ _ _ _ _ _ _ r h => by simp [spec_AutoMake.j2] at h, fun _ _ _ _ _ _ _ _ r h => by simp [spec_AutoMake.l1] at h⟩
 | k + 1 => by
  obtain ⟨ih0, ih1, ih2, ih3⟩ := spec_AutoMake.mono_l k
  refine ⟨?_, ?_, ?_, ?_⟩
  ·intro y0 y1 y2 y3 y4 y5 y6
   unfold spec_AutoMake.j0
   repeat' first
   | (with_reducible exact ih0 _ _ _ _ _ _ _)
   | (with_reducible exact ih1 _ _ _ _ _ _ _ _)
   | (with_reducible exact ih2 _ _ _ _ _ _ _ _ _ _ _ _ _)
   | (with_reducible exact ih3 _ _ _ _ _ _ _ _)
   | (with_reducible exact spec_AutoOk.mono _ _ _ _ _)
   | (with_reducible exact LeO.refl _)
   | (with_reducible exact LeO.none _)
   | (with_reducible refine LeO.ite ?_ ?_)
   | (with_reducible refine LeO.bind ?_ (fun _ => ?_))
   | exact ih0 _ _ _ _ _ _ _
   | exact ih1 _ _ _ _ _ _ _ _
   | exact ih2 _ _ _ _ _ _ _ _ _ _ _ _ _
   | exact ih3 _ _ _ _ _ _ _ _
   | exact spec_AutoOk.mono _ _ _ _ _
   | exact LeO.none _
   | refine LeO.ite ?_ ?_
   | refine LeO.bind ?_ (fun _ => ?_)
  ·intro y0 y1 y2 y3 y4 y5 y6 y7
   unfold spec_AutoMake.l0
   repeat' first
   | (with_reducible exact ih0 _ _ _ _ _ _ _)
   | (with_reducible exact ih1 _ _ _ _ _ _ _ _)
   | (with_reducible exact ih2 _ _ _ _ _ _ _ _ _ _ _ _ _)
   | (with_reducible exact ih3 _ _ _ _ _ _ _ _)
   | (with_reducible exact spec_AutoOk.mono _ _ _ _ _)
   | (with_reducible exact LeO.refl _)
   | (with_reducible exact LeO.none _)
   | (with_reducible refine LeO.ite ?_ ?_)
   | (with_reducible refine LeO.bind ?_ (fun _ => ?_))
   | exact ih0 _ _ _ _ _ _ _
   | exact ih1 _ _ _ _ _ _ _ _
   | exact ih2 _ _ _ _ _ _ _ _ _ _ _ _ _
   | exact ih3 _ _ _ _ _ _ _ _
   | exact spec_AutoOk.mono _ _ _ _ _
   | exact LeO.none _
   | refine LeO.ite ?_ ?_
   | refine LeO.bind ?_ (fun _ => ?_)
  ·intro y0 y1 y2 y3 y4 y5 y6 y7 y8 y9 y10 y11 y12
   unfold spec_AutoMake.j2
   repeat' first
   | (with_reducible exact ih0 _ _ _ _ _ _ _)
   | (with_reducible exact ih1 _ _ _ _ _ _ _ _)
   | (with_reducible exact ih2 _ _ _ _ _ _ _ _ _ _ _ _ _)
   | (with_reducible exact ih3 _ _ _ _ _ _ _ _)
   | (with_reducible exact spec_AutoOk.mono _ _ _ _ _)
   | (with_reducible exact LeO.refl _)
   | (with_reducible exact LeO.none _)
   | (with_reducible refine LeO.ite ?_ ?_)
   | (with_reducible refine LeO.bind ?_ (fun _ => ?_))
   | exact ih0 _ _ _ _ _ _ _
   | exact ih1 _ _ _ _ _ _ _ _
   | exact ih2 _ _ _ _ _ _ _ _ _ _ _ _ _
   | exact ih3 _ _ _ _ _ _ _ _
   | exact spec_AutoOk.mono _ _ _ _ _
   | exact LeO.none _
   | refine LeO.ite ?_ ?_
   | refine LeO.bind ?_ (fun _ => ?_)
  ·intro y0 y1 y2 y3 y4 y5 y6 y7
   unfold spec_AutoMake.l1
   repeat' first
   | (with_reducible exact ih0 _ _ _ _ _ _ _)
   | (with_reducible exact ih1 _ _ _ _ _ _ _ _)
   | (with_reducible exact ih2 _ _ _ _ _ _ _ _ _ _ _ _ _)
   | (with_reducible exact ih3 _ _ _ _ _ _ _ _)
   | (with_reducible exact spec_AutoOk.mono _ _ _ _ _)
   | (with_reducible exact LeO.refl _)
   | (with_reducible exact LeO.none _)
   | (with_reducible refine LeO.ite ?_ ?_)
   | (with_reducible refine LeO.bind ?_ (fun _ => ?_))
   | exact ih0 _ _ _ _ _ _ _
   | exact ih1 _ _ _ _ _ _ _ _
   | exact ih2 _ _ _ _ _ _ _ _ _ _ _ _ _
   | exact ih3 _ _ _ _ _ _ _ _
   | exact spec_AutoOk.mono _ _ _ _ _
   | exact LeO.none _
   | refine LeO.ite ?_ ?_
   | refine LeO.bind ?_ (fun _ => ?_)
theorem spec_AutoMake.mono : ∀ a0 a1 a2 a3 k, LeO (spec_AutoMake.f k a0 a1 a2 a3) (spec_AutoMake.f (k + 1) a0 a1 a2 a3) := by
 intro a0 a1 a2 a3 k
 obtain ⟨ih0, ih1, ih2, ih3⟩ := spec_AutoMake.mono_l k
 unfold spec_AutoMake.f
 repeat' first
   | (with_reducible exact ih0 _ _ _ _ _ _ _)
   | (with_reducible exact ih1 _ _ _ _ _ _ _ _)
   | (with_reducible exact ih2 _ _ _ _ _ _ _ _ _ _ _ _ _)
   | (with_reducible exact ih3 _ _ _ _ _ _ _ _)
   | (with_reducible exact spec_AutoOk.mono _ _ _ _ _)
   | (with_reducible exact LeO.refl _)
   | (with_reducible exact LeO.none _)
   | (with_reducible refine LeO.ite ?_ ?_)
   | (with_reducible refine LeO.bind ?_ (fun _ => ?_))
   | exact ih0 _ _ _ _ _ _ _
   | exact ih1 _ _ _ _ _ _ _ _
   | exact ih2 _ _ _ _ _ _ _ _ _ _ _ _ _
   | exact ih3 _ _ _ _ _ _ _ _
   | exact spec_AutoOk.mono _ _ _ _ _
   | exact LeO.none _
   | refine LeO.ite ?_ ?_
   | refine LeO.bind ?_ (fun _ => ?_)
def spec_AutoMake.T20 : Bool × List (List Nat × List Nat) := (true, [([], []), ([0], [0]), ([], []), ([], []), ([2, 3], [2, 3]), ([], []), ([4, 5], [4, 5]), ([], []), ([], []), ([7, 8], [7, 8]), ([], []), ([9, 10], [9, 10]), ([], []), ([], []), ([12, 13], [12, 13]), ([], []), ([], []), ([15, 16], [15, 16]), ([17], [17]), ([18], [18]), ([6, 11, 14, 19], [6, 11, 14, 19]), ([20], [20]), ([1, 21], [1, 21]), ([0, 1, 2, 3, 4, 5, 6, 7, 8, 9, 10, 11, 12, 13, 14, 15, 16, 17, 18, 19, 20, 21, 22], []), ([23, 22, 22, 0, 1, 2, 3, 4, 5, 6, 7, 8, 9, 10, 11, 12, 13, 14, 15, 16, 17, 18, 19, 20, 21, 22], [22, 23])])
def spec_AutoMake.B20 : List Nat := [0, 1, 0, 0, 12, 0, 60, 0, 0, 384, 0, 1920, 0, 0, 12288, 0, 0, 98304, 229376, 491520, 1048572, 2097148, 4194303, 8388607, 16777215]
theorem spec_AutoMake.tab20 : rtab .any (opsOf Try.f8 20) = spec_AutoMake.T20 := by kernel_rfl
theorem spec_AutoMake.bits20 : waitsOk spec_AutoMake.T20.2 spec_AutoMake.B20 = true := by kernel_rfl
open Go.Proofs.Ytigmokdcanebeaa.Short2 in
set_option maxHeartbeats 8000000 in
set_option maxRecDepth 100000 in
theorem spec_AutoMake.calls (k : Nat) (a0 : Int) (a1 : Int) (a2 : Int) (A3 : Option Addr) (c3 : Nat) (l3 : List (S33)) (r1 : Int) (r2 : Int) (r3 : Int) (r4 : List (S33)) (r5 : Bool) (w : World) (hr3 : Kd.C k33 w A3 l3.length l3) (hc3 : l3.length ≤ c3) (h : spec_AutoMake.f k a0 a1 a2 l3 = some (r1, r2, r3, r4, r5)) :
  Calls Try.prog 8 #[.int .i64 a0, .int .i64 a1, .int .i64 a2, .slice A3 l3.length c3] w fun e w' => ∃ v3_ : Value, e = .returned (.tuple #[.agg #[.int .i64 r1, .int .i64 r2, .int .i64 r3, v3_], .bool r5]) ∧ Kd.R k33 33 w' w.heap.size (fun _ => True) v3_ r4 ∧ Below w.heap.size w w' := by
 have hu28 := Try.underlying28; have hu33 := Try.underlying33; have HR3 := Aside0.mk hr3; have HC3 := Aside0.mk hc3; clear hr3 hc3; have HB := Aside0.mk (Below.refl w.heap.size w); have H : ((spec_AutoOk.f k a0 a1 a2 ([] : List (S33))).bind fun t178 => (if t178 = true then (spec_AutoMake.j0 k a0 a1 l3 (decide ((l3.length : Int) > 2000)) a0 a1 a2) else (spec_AutoMake.j0 k a0 a1 l3 true a0 a1 a2))) = some (r1, r2, r3, r4, r5) := h; clear h; have HC5 := Aside0.mk H; clear H
 go_enter Try.func8, Try.ntmps8
 go_upto_region 2 with (first | ((with_reducible refine gate_dst (N := 8) rfl ?_); (try (refine gate_guard (by rfl) ?_; dsimp only)); refine box_event ?hg (N := 8) ?hd (cs := #[.int .i64 0, .int .i64 0, .int .i64 0, .slice none 0 0]) (t := 28) ?hr ?_; (case hd => rfl); (case hg => rfl); (case hr => first | (go_simp; done) | (go_simp; rfl)); intro gb176 hg w6 hbox hb; have BK176 := Aside0.mk (hbox); have GW176 := xG HB hg; have GE176 := xG HB hg; replace HB := xS HB hb; clear hb hbox hg) | ((with_reducible refine gate_dst (N := 10) rfl ?_); (try (refine gate_guard (by rfl) ?_; dsimp only)); refine box_event ?hg (N := 10) ?hd (cs := #[.int .i64 0, .int .i64 0, .int .i64 0, .slice none 0 0]) (t := 28) ?hr ?_; (case hd => rfl); (case hg => rfl); (case hr => first | (go_simp; done) | (go_simp; rfl)); intro gb177 hg w7 hbox hb; have BK177 := Aside0.mk (hbox); have GW177 := xG HB hg; have GE177 := xG HB hg; replace HB := xS HB hb; have NB176_177 := xN BK176 hg; have NB177_176 := xM BK176 hg; replace BK176 := xB BK176 hb; clear hb hbox hg; have hnb8 := NB177_176.out; have hnc8 := NB176_177.out; have hcz9_0 : w7.cell? ⟨gb177, 0, none⟩ = some (.int .i64 0) := b1 BK177 0; have hcz9_1 : w7.cell? ⟨gb177, 1, none⟩ = some (.int .i64 0) := b1 BK177 1; have hcz9_2 : w7.cell? ⟨gb177, 2, none⟩ = some (.int .i64 0) := b1 BK177 2; have hcz9_3 : w7.cell? ⟨gb177, 3, none⟩ = some (.slice none 0 0) := b1 BK177 3; have hfz9_0 := blk_frozen BK177.out 0; have hfz9_1 := blk_frozen BK177.out 1; have hfz9_2 := blk_frozen BK177.out 2; have hfz9_3 := blk_frozen BK177.out 3))
 (try simp only [Act.put, q3])
 go_cut [28] (fun v28 wc => ∃ (kq : Nat) (x28_4 : Bool), v28 = .bool x28_4 ∧ Aside0 (spec_AutoMake.j0 kq a0 a1 l3 x28_4 a0 a1 a2 = some (r1, r2, r3, r4, r5)) ∧ Aside0 (kq ≤ k) ∧ Aside0 (wc.heap[gb176]? = some (.cells #[.int .i64 0, .int .i64 0, .int .i64 0, (.slice none 0 0)] 28 (0, 0))) ∧ Aside0 (wc.heap[gb177]? = some (.cells #[.int .i64 a0, .int .i64 a1, .int .i64 a2, (.slice none 0 0)] 28 (0, 0))) ∧ Aside0 (Below w.heap.size w wc))
 case first =>
  have H := HC5.out; clear HC5; replace H := Option.bind_eq_some_iff.mp H; obtain ⟨t178, A100, H⟩ := H; replace H : (if t178 = true then (spec_AutoMake.j0 k a0 a1 l3 (decide ((l3.length : Int) > 2000)) a0 a1 a2) else (spec_AutoMake.j0 k a0 a1 l3 true a0 a1 a2)) = some (r1, r2, r3, r4, r5) := H; have A10 := Aside0.mk A100; clear A100
  by_cases c11 : t178 = true
  ·subst c11
   have H1 : (spec_AutoMake.j0 k a0 a1 l3 (decide ((l3.length : Int) > 2000)) a0 a1 a2) = some (r1, r2, r3, r4, r5) := by rw [if_pos rfl] at H; exact H
   clear H; have H := H1; clear H1; have H' := Aside0.mk H; clear H; have hnb12 := NB177_176.out; have hnc12 := NB176_177.out; have hcz13_0 : w7.cell? ⟨gb177, 0, none⟩ = some (.int .i64 0) := b1 BK177 0; have hcz13_1 : w7.cell? ⟨gb177, 1, none⟩ = some (.int .i64 0) := b1 BK177 1; have hcz13_2 : w7.cell? ⟨gb177, 2, none⟩ = some (.int .i64 0) := b1 BK177 2; have hcz13_3 : w7.cell? ⟨gb177, 3, none⟩ = some (.slice none 0 0) := b1 BK177 3; have hfz13_0 := blk_frozen BK177.out 0; have hfz13_1 := blk_frozen BK177.out 1; have hfz13_2 := blk_frozen BK177.out 2; have hfz13_3 := blk_frozen BK177.out 3
   go_wp2_with (first | ((with_reducible refine gate_callee (f := 26) rfl ?_); refine goesL_ (some 22) rfl rfl Try.func26 (by kernel_rfl) rfl #[.agg #[.int .i64 a0, .int .i64 a1, .int .i64 a2, .slice none 0 0]] rfl (by (try simp only [m3]); first | done | rfl | (simp only [d2]; rfl)) ?_; (refine (spec_AutoOk.calls k a0 a1 a2 none 0 ([] : List (S33)) true _ ?side1 ?side2 A10.out).mono ?_); (case side1 => exact Kd.C_nil _ _); (case side2 => exact Nat.le_refl _); rintro e w14 ⟨rfl, hb⟩; refine ⟨_, rfl, ?_⟩; replace BK176 := xB BK176 hb; replace BK177 := Aside0.mk (blk_below (g := gb177) (o := .cells #[.int .i64 a0, .int .i64 a1, .int .i64 a2, .slice none 0 0] 28 (0, 0)) (xP4 BK177.out) hb); replace HB := xS HB hb; (try clear hb); (try clear hb2); (try clear hk); (try clear hi)))
   go_meet
   case rel => exact ⟨_, (decide ((l3.length : Int) > 2000)), (by first | rfl | (simp; done) | (simp [*]; done) | (rw [Int.tmod_eq_emod_of_nonneg (Int.natCast_nonneg _)]; done)), H', ⟨by first | omega | exact Nat.le_refl _⟩, ⟨zB BK176.out⟩, ⟨zB BK177.out⟩, ⟨zS HB.out⟩⟩
  ·replace c11 := Bool.eq_false_iff.mpr c11; subst c11
   have H1 : (spec_AutoMake.j0 k a0 a1 l3 true a0 a1 a2) = some (r1, r2, r3, r4, r5) := by rw [if_neg (show ¬ (false = true) by decide)] at H; exact H
   clear H; have H := H1; clear H1; have H' := Aside0.mk H; clear H; have hnb15 := NB177_176.out; have hnc15 := NB176_177.out; have hcz16_0 : w7.cell? ⟨gb177, 0, none⟩ = some (.int .i64 0) := b1 BK177 0; have hcz16_1 : w7.cell? ⟨gb177, 1, none⟩ = some (.int .i64 0) := b1 BK177 1; have hcz16_2 : w7.cell? ⟨gb177, 2, none⟩ = some (.int .i64 0) := b1 BK177 2; have hcz16_3 : w7.cell? ⟨gb177, 3, none⟩ = some (.slice none 0 0) := b1 BK177 3; have hfz16_0 := blk_frozen BK177.out 0; have hfz16_1 := blk_frozen BK177.out 1; have hfz16_2 := blk_frozen BK177.out 2; have hfz16_3 := blk_frozen BK177.out 3
   go_wp2_with (first | ((with_reducible refine gate_callee (f := 26) rfl ?_); refine goesL_ (some 22) rfl rfl Try.func26 (by kernel_rfl) rfl #[.agg #[.int .i64 a0, .int .i64 a1, .int .i64 a2, .slice none 0 0]] rfl (by (try simp only [m3]); first | done | rfl | (simp only [d2]; rfl)) ?_; (refine (spec_AutoOk.calls k a0 a1 a2 none 0 ([] : List (S33)) false _ ?side1 ?side2 A10.out).mono ?_); (case side1 => exact Kd.C_nil _ _); (case side2 => exact Nat.le_refl _); rintro e w17 ⟨rfl, hb⟩; refine ⟨_, rfl, ?_⟩; replace BK176 := xB BK176 hb; replace BK177 := Aside0.mk (blk_below (g := gb177) (o := .cells #[.int .i64 a0, .int .i64 a1, .int .i64 a2, .slice none 0 0] 28 (0, 0)) (xP4 BK177.out) hb); replace HB := xS HB hb; (try clear hb); (try clear hb2); (try clear hk); (try clear hi)))
   go_meet
   case rel => exact ⟨_, (true), (by first | rfl | (simp; done) | (simp [*]; done) | (rw [Int.tmod_eq_emod_of_nonneg (Int.natCast_nonneg _)]; done)), H', ⟨by first | omega | exact Nat.le_refl _⟩, ⟨zB BK176.out⟩, ⟨zB BK177.out⟩, ⟨zS HB.out⟩⟩
 case rest =>
  clear HC5
  try clear c1
  try clear c2
  try clear p2
  try clear c3
  try clear c8
  try clear c11
  try clear c12
  try clear c15
  try clear hcz13_0
  try clear hcz13_1
  try clear hcz13_2
  try clear hcz13_3
  try clear hcz16_0
  try clear hcz16_1
  try clear hcz16_2
  try clear hcz16_3
  try clear hcz9_0
  try clear hcz9_1
  try clear hcz9_2
  try clear hcz9_3
  try clear hfz13_0
  try clear hfz13_1
  try clear hfz13_2
  try clear hfz13_3
  try clear hfz16_0
  try clear hfz16_1
  try clear hfz16_2
  try clear hfz16_3
  try clear hfz9_0
  try clear hfz9_1
  try clear hfz9_2
  try clear hfz9_3
  obtain ⟨kq, x28_4, rfl, HA, HJ4, BK176, BK177, HB⟩ := hcut
  cases kq with
  | zero => exact absurd HA.out (by simp [spec_AutoMake.j0])
  | succ kj4 =>
   have H := HA.out; clear HA; simp only [spec_AutoMake.j0] at H
   by_cases c18 : x28_4 = true
   ·subst c18
    have H1 : (some (0, 0, 0, ([] : List (S33)), false)) = some (r1, r2, r3, r4, r5) := by rw [if_pos rfl] at H; exact H
    clear H; have H := H1; clear H1; simp only [Option.some.injEq, Prod.mk.injEq] at H; obtain ⟨rfl, rfl, rfl, rfl, rfl⟩ := H; have hnb19 := NB176_177.out; have hnc19 := NB177_176.out; have hcz20_0 : wc.cell? ⟨gb176, 0, none⟩ = some (.int .i64 0) := b1 BK176 0; have hcz20_1 : wc.cell? ⟨gb176, 1, none⟩ = some (.int .i64 0) := b1 BK176 1; have hcz20_2 : wc.cell? ⟨gb176, 2, none⟩ = some (.int .i64 0) := b1 BK176 2; have hcz20_3 : wc.cell? ⟨gb176, 3, none⟩ = some (.slice none 0 0) := b1 BK176 3; have hfz20_0 := blk_frozen BK176.out 0; have hfz20_1 := blk_frozen BK176.out 1; have hfz20_2 := blk_frozen BK176.out 2; have hfz20_3 := blk_frozen BK176.out 3
    go_wp2
    refine bodyPost_ret (results_ct rfl _ _ gb176 28 #[.int .i64 0, .int .i64 0, .int .i64 0, .slice none 0 0] (0, 0) _ rfl (xP4 BK176.out) Try.underlying28 rfl (by kernel_rfl)) rfl ?_; exact ⟨_, by first | rfl | (simp [errW_none, errW_some] <;> rfl) | (simp [*, errW_none, errW_some] <;> rfl), by first | exact Kd.R_nil _ _ _ _ _ | exact Kd.N_nil _ _ _ _ _ | exact Kd.V_nil _ _ _ _ _ | exact Kd.Q_nil _ _ _ _ _ | exact Kd.S_nil _ _ _ _ _, by repeat (first | (with_reducible first | exact HB.out | apply below_alloc | apply pw_below_drewN | apply below_drew1 | refine below_set ?_ GE176.out | refine below_set ?_ GE177.out) | exact HB.out)⟩
   ·replace c18 := Bool.eq_false_iff.mpr c18; subst c18
    have H1 : (if 0 ≤ (wrap64 ((wrap64 (a1 * a0)) * a1)) then (if (wrap64 ((wrap64 (a1 * a0)) * a1) : Int).toNat ≤ 35184372088832 then (spec_AutoMake.l0 kj4 a0 a1 l3 (List.replicate (wrap64 ((wrap64 (a1 * a0)) * a1) : Int).toNat 0) 0 a0 a1 a2) else (none)) else (none)) = some (r1, r2, r3, r4, r5) := by rw [if_neg (show ¬ (false = true) by decide)] at H; exact H
    clear H; have H := H1; clear H1; obtain ⟨ji21, hji21⟩ : ∃ j_ : Int, (wrap64 ((wrap64 (a1 * a0)) * a1)) = j_ := ⟨_, rfl⟩
    replace H : (if 0 ≤ (ji21) then (if (ji21 : Int).toNat ≤ 35184372088832 then (spec_AutoMake.l0 kj4 a0 a1 l3 (List.replicate (ji21 : Int).toNat 0) 0 a0 a1 a2) else (none)) else (none)) = some (r1, r2, r3, r4, r5) := by first | (rw [hji21] at H; exact H) | (simp only [hji21] at H ⊢; exact H)
    have hji21w : (IntKind.i64.wrap ((wrap64 (a1 * a0)) * a1)) = ji21 := (i64_w _).trans hji21
    by_cases c22 : 0 ≤ (ji21)
    ·rw [if_pos c22] at H; have c22b0 := eq_true c22; have c22b1 : decide (0 ≤ (ji21)) = true := decide_eq_true c22; clear c22
     by_cases c23 : (ji21 : Int).toNat ≤ 35184372088832
     ·rw [if_pos c23] at H; have c23b0 := eq_true c23; have c23b1 : decide ((ji21 : Int).toNat ≤ 35184372088832) = true := decide_eq_true c23; clear c23; obtain ⟨y179, hy179⟩ : ∃ y_ : List Int, y_ = (List.replicate (ji21 : Int).toNat 0) := ⟨_, rfl⟩
      replace H : (spec_AutoMake.l0 kj4 a0 a1 l3 y179 0 a0 a1 a2) = some (r1, r2, r3, r4, r5) := by first | (rw [hy179]; with_reducible exact H) | (have H2_ := (Option.bind_some _ _).symm.trans H; rw [hy179]; with_reducible exact H2_) | (have H2_ := (Option.bind_some _ _).symm.trans H; with_reducible exact H2_) | with_reducible exact H | (rw [hy179]; exact H) | exact H
      have Ny179 := Aside0.mk hy179; clear hy179; have H' := Aside0.mk H; clear H
      go_wp2_with (first | ((with_reducible refine gate_dst (N := 35) rfl ?_); (try (refine gate_guard (by rfl) ?_; dsimp only)); refine Kd.R_make (Kd.int .i64) _ 3 rfl (N := 35) rfl 49 _ _ rfl ji21 rfl rfl Try.underlying49 (.int .i64 0) 8 info3 rfl (by decide) (by omega) 0 (ok := fun _ => True) (okp := fun _ => True) rfl (fun _ hk => hk) trivial (of_decide_eq_true (by first | (with_reducible assumption) | assumption)) (Nat.le_trans (Nat.mul_le_mul_right _ (of_decide_eq_true (by first | (with_reducible assumption) | assumption) : ji21.toNat ≤ 35184372088832)) (by omega)) (Below.refl _ _) (Nat.le_refl _) ?_; intro v180 w24 ho25 hb hg_ hnew_; clear hg_ hnew_; (first | rw [← Ny179.out] at ho25 | (simp only [Int.reduceToNat] at ho25; rw [← Ny179.out] at ho25)); have HO181 := Aside0.mk (Kd.R_lower ho25 (below_size (zS HB.out))); replace BK176 := xB BK176 hb; replace BK177 := xB BK177 hb; replace HB := xS HB hb; clear hb ho25))
      go_loopg [12] kj4 (fun kq v12 w' => ∃ (x11_2 : List Int) (x12_2 : Int) (x177000_2 : Int) (x177001_2 : Int) (x177002_2 : Int), v12 = .int .i64 x12_2 ∧ Aside0 (spec_AutoMake.l0 kq a0 a1 l3 x11_2 x12_2 a0 a1 a2 = some (r1, r2, r3, r4, r5)) ∧ Aside0 (kq ≤ kj4) ∧ Aside0 (Kd.R (Kd.int .i64) 3 w' w.heap.size (fun _ => True) v180 x11_2) ∧ Aside0 (w'.heap[gb176]? = some (.cells #[.int .i64 x177000_2, .int .i64 x177001_2, .int .i64 x177002_2, (.slice none 0 0)] 28 (0, 0))) ∧ Aside0 (w'.heap[gb177]? = some (.cells #[.int .i64 a0, .int .i64 a1, .int .i64 a2, (.slice none 0 0)] 28 (0, 0))) ∧ Aside0 (Below w.heap.size w w'))
      case atStart => exact ⟨(y179), (0), (0), (0), (0), (by first | rfl | (simp; done) | (simp [*]; done) | (rw [Int.tmod_eq_emod_of_nonneg (Int.natCast_nonneg _)]; done)), H', ⟨Nat.le_refl _⟩, ⟨zR HO181.out⟩, ⟨zB BK176.out⟩, ⟨zB BK177.out⟩, ⟨zS HB.out⟩⟩
      case round =>
       clear H'
       try clear c1
       try clear c2
       try clear p2
       try clear c3
       try clear p6
       try clear c8
       try clear c11
       try clear c12
       try clear c15
       try clear c18
       try clear c19
       try clear c22
       try clear c22b0
       try clear c22b1
       try clear c23
       try clear c23b0
       try clear c23b1
       try clear hcz13_0
       try clear hcz13_1
       try clear hcz13_2
       try clear hcz13_3
       try clear hcz16_0
       try clear hcz16_1
       try clear hcz16_2
       try clear hcz16_3
       try clear hcz20_0
       try clear hcz20_1
       try clear hcz20_2
       try clear hcz20_3
       try clear hcz9_0
       try clear hcz9_1
       try clear hcz9_2
       try clear hcz9_3
       try clear hfz13_0
       try clear hfz13_1
       try clear hfz13_2
       try clear hfz13_3
       try clear hfz16_0
       try clear hfz16_1
       try clear hfz16_2
       try clear hfz16_3
       try clear hfz20_0
       try clear hfz20_1
       try clear hfz20_2
       try clear hfz20_3
       try clear hfz9_0
       try clear hfz9_1
       try clear hfz9_2
       try clear hfz9_3
       try clear p2
       obtain ⟨x11_2, x12_2, x177000_2, x177001_2, x177002_2, rfl, HA, HK2, HO_11, BK176, BK177, HB⟩ := hrel
       cases gk with
       | zero => exact absurd HA.out (by simp [spec_AutoMake.l0])
       | succ k2 =>
        have H := HA.out; clear HA; simp only [spec_AutoMake.l0] at H
        by_cases c26 : x12_2 < (l3.length : Int)
        ·rw [if_pos c26] at H; have c26b0 : decide (x12_2 < (l3.length : Int)) = true := decide_eq_true c26; clear c26
         by_cases c27 : 0 ≤ x12_2
         ·rw [if_pos c27] at H; have c27b0 : decide (0 ≤ x12_2) = true := decide_eq_true c27; clear c27; have HC28 := Aside0.mk H; clear H; have p182 : 0 ≤ (x12_2 : Int) := of_decide_eq_true (by first | (with_reducible assumption) | assumption); have q182 : x12_2 < (l3.length : Int) := of_decide_eq_true (by first | (with_reducible assumption) | assumption); obtain ⟨ad182, e182, hx182_0, hx182_1, hx182_2, hx182_3⟩ := at_T33 HR3.out x12_2 p182 q182
          cases e182
          replace hx182_0 := (HB.out.cell (World.block_lt_of_cell? w _ hx182_0)).trans hx182_0; replace hx182_1 := (HB.out.cell (World.block_lt_of_cell? w _ hx182_1)).trans hx182_1; replace hx182_2 := (HB.out.cell (World.block_lt_of_cell? w _ hx182_2)).trans hx182_2; replace hx182_3 := (HB.out.cell (World.block_lt_of_cell? w _ hx182_3)).trans hx182_3; replace p182 := eq_true p182; replace q182 := eq_true q182
          go_upto_region 9 with (first | ((with_reducible refine gate_dst (N := 13) rfl ?_); (try (refine gate_guard (by rfl) ?_; dsimp only)); refine box_event ?hg (N := 13) ?hd (cs := #[.int .i64 0, .int .i64 0, .int .i64 0, .bool false]) (t := 33) ?hr ?_; (case hd => rfl); (case hg => rfl); (case hr => first | (go_simp; done) | (go_simp; rfl)); intro gb183 hg w29 hbox hb; replace HO_11 := xR HO_11 hb; have BK183 := Aside0.mk (hbox); have GW183 := xG HB hg; have GE183 := xG HB hg; replace HB := xS HB hb; have NB176_183 := xN BK176 hg; have NB183_176 := xM BK176 hg; replace BK176 := xB BK176 hb; have NB177_183 := xN BK177 hg; have NB183_177 := xM BK177 hg; replace BK177 := xB BK177 hb; clear hb hbox hg; have hnb30 := NB183_176.out; have hnc30 := NB176_183.out; have hnb31 := NB183_177.out; have hnc31 := NB177_183.out; have hcz32_0 : w29.cell? ⟨gb183, 0, none⟩ = some (.int .i64 0) := b1 BK183 0; have hcz32_1 : w29.cell? ⟨gb183, 1, none⟩ = some (.int .i64 0) := b1 BK183 1; have hcz32_2 : w29.cell? ⟨gb183, 2, none⟩ = some (.int .i64 0) := b1 BK183 2; have hcz32_3 : w29.cell? ⟨gb183, 3, none⟩ = some (.bool false) := b1 BK183 3; have hfz32_0 := blk_frozen BK183.out 0; have hfz32_1 := blk_frozen BK183.out 1; have hfz32_2 := blk_frozen BK183.out 2; have hfz32_3 := blk_frozen BK183.out 3))
          (try simp only [Act.put, q3])
          go_cut [65] (fun v65 wc => ∃ (kq : Nat) (x65_27 : Bool), v65 = .bool x65_27 ∧ Aside0 (spec_AutoMake.j2 kq a0 a1 l3 x11_2 x12_2 x65_27 a0 a1 a2 ((rd_T33 l3 x12_2).f0) ((rd_T33 l3 x12_2).f1) ((rd_T33 l3 x12_2).f2) ((rd_T33 l3 x12_2).f3) = some (r1, r2, r3, r4, r5)) ∧ Aside0 (kq ≤ k2) ∧ Aside0 (Kd.R (Kd.int .i64) 3 wc w.heap.size (fun _ => True) v180 x11_2) ∧ Aside0 (wc.heap[gb176]? = some (.cells #[.int .i64 x177000_2, .int .i64 x177001_2, .int .i64 x177002_2, (.slice none 0 0)] 28 (0, 0))) ∧ Aside0 (wc.heap[gb177]? = some (.cells #[.int .i64 a0, .int .i64 a1, .int .i64 a2, (.slice none 0 0)] 28 (0, 0))) ∧ Aside0 (wc.heap[gb183]? = some (.cells #[.int .i64 ((rd_T33 l3 x12_2).f0), .int .i64 ((rd_T33 l3 x12_2).f1), .int .i64 ((rd_T33 l3 x12_2).f2), .bool ((rd_T33 l3 x12_2).f3)] 33 (0, 0))) ∧ Aside0 (Below w.heap.size w wc))
          case first =>
           have H := HC28.out; clear HC28; replace H := Option.bind_eq_some_iff.mp H; obtain ⟨t184, A330, H⟩ := H; replace H : (if t184 = true then ((spec_l4State.f ((rd_T33 l3 x12_2).f2) a1).bind fun t185 => (if t185 = true then ((spec_l1In.f ((rd_T33 l3 x12_2).f1) 0 (wrap64 (a0 - 1))).bind fun t186 => (spec_AutoMake.j2 k2 a0 a1 l3 x11_2 x12_2 (!t186) a0 a1 a2 ((rd_T33 l3 x12_2).f0) ((rd_T33 l3 x12_2).f1) ((rd_T33 l3 x12_2).f2) ((rd_T33 l3 x12_2).f3))) else (spec_AutoMake.j2 k2 a0 a1 l3 x11_2 x12_2 true a0 a1 a2 ((rd_T33 l3 x12_2).f0) ((rd_T33 l3 x12_2).f1) ((rd_T33 l3 x12_2).f2) ((rd_T33 l3 x12_2).f3)))) else (spec_AutoMake.j2 k2 a0 a1 l3 x11_2 x12_2 true a0 a1 a2 ((rd_T33 l3 x12_2).f0) ((rd_T33 l3 x12_2).f1) ((rd_T33 l3 x12_2).f2) ((rd_T33 l3 x12_2).f3))) = some (r1, r2, r3, r4, r5) := H; have A33 := Aside0.mk A330; clear A330
           by_cases c34 : t184 = true
           ·subst c34
            have H1 : ((spec_l4State.f ((rd_T33 l3 x12_2).f2) a1).bind fun t185 => (if t185 = true then ((spec_l1In.f ((rd_T33 l3 x12_2).f1) 0 (wrap64 (a0 - 1))).bind fun t186 => (spec_AutoMake.j2 k2 a0 a1 l3 x11_2 x12_2 (!t186) a0 a1 a2 ((rd_T33 l3 x12_2).f0) ((rd_T33 l3 x12_2).f1) ((rd_T33 l3 x12_2).f2) ((rd_T33 l3 x12_2).f3))) else (spec_AutoMake.j2 k2 a0 a1 l3 x11_2 x12_2 true a0 a1 a2 ((rd_T33 l3 x12_2).f0) ((rd_T33 l3 x12_2).f1) ((rd_T33 l3 x12_2).f2) ((rd_T33 l3 x12_2).f3)))) = some (r1, r2, r3, r4, r5) := by rw [if_pos rfl] at H; exact H
            clear H; have H := H1; clear H1; replace H := Option.bind_eq_some_iff.mp H; obtain ⟨t185, A350, H⟩ := H; replace H : (if t185 = true then ((spec_l1In.f ((rd_T33 l3 x12_2).f1) 0 (wrap64 (a0 - 1))).bind fun t186 => (spec_AutoMake.j2 k2 a0 a1 l3 x11_2 x12_2 (!t186) a0 a1 a2 ((rd_T33 l3 x12_2).f0) ((rd_T33 l3 x12_2).f1) ((rd_T33 l3 x12_2).f2) ((rd_T33 l3 x12_2).f3))) else (spec_AutoMake.j2 k2 a0 a1 l3 x11_2 x12_2 true a0 a1 a2 ((rd_T33 l3 x12_2).f0) ((rd_T33 l3 x12_2).f1) ((rd_T33 l3 x12_2).f2) ((rd_T33 l3 x12_2).f3))) = some (r1, r2, r3, r4, r5) := H; have A35 := Aside0.mk A350; clear A350
            by_cases c36 : t185 = true
            ·subst c36
             have H1 : ((spec_l1In.f ((rd_T33 l3 x12_2).f1) 0 (wrap64 (a0 - 1))).bind fun t186 => (spec_AutoMake.j2 k2 a0 a1 l3 x11_2 x12_2 (!t186) a0 a1 a2 ((rd_T33 l3 x12_2).f0) ((rd_T33 l3 x12_2).f1) ((rd_T33 l3 x12_2).f2) ((rd_T33 l3 x12_2).f3))) = some (r1, r2, r3, r4, r5) := by rw [if_pos rfl] at H; exact H
             clear H; have H := H1; clear H1; replace H := Option.bind_eq_some_iff.mp H; obtain ⟨t186, A370, H⟩ := H; replace H : (spec_AutoMake.j2 k2 a0 a1 l3 x11_2 x12_2 (!t186) a0 a1 a2 ((rd_T33 l3 x12_2).f0) ((rd_T33 l3 x12_2).f1) ((rd_T33 l3 x12_2).f2) ((rd_T33 l3 x12_2).f3)) = some (r1, r2, r3, r4, r5) := H; have A37 := Aside0.mk A370; clear A370; have H' := Aside0.mk H; clear H; have hnb38 := NB183_176.out; have hnc38 := NB176_183.out; have hnb39 := NB183_177.out; have hnc39 := NB177_183.out; have hcz40_0 : w29.cell? ⟨gb183, 0, none⟩ = some (.int .i64 0) := b1 BK183 0; have hcz40_1 : w29.cell? ⟨gb183, 1, none⟩ = some (.int .i64 0) := b1 BK183 1; have hcz40_2 : w29.cell? ⟨gb183, 2, none⟩ = some (.int .i64 0) := b1 BK183 2; have hcz40_3 : w29.cell? ⟨gb183, 3, none⟩ = some (.bool false) := b1 BK183 3; have hfz40_0 := blk_frozen BK183.out 0; have hfz40_1 := blk_frozen BK183.out 1; have hfz40_2 := blk_frozen BK183.out 2; have hfz40_3 := blk_frozen BK183.out 3
             go_wp2_with (first | ((with_reducible refine gate_callee (f := 27) rfl ?_); refine goesL_ (some 49) rfl rfl Try.func27 (by kernel_rfl) rfl #[.int .i64 ((rd_T33 l3 x12_2).f0), .int .i64 a1] rfl (by (try simp only [m3]); first | done | rfl | (simp only [d2]; rfl)) ?_; (with_reducible refine (spec_l4State.calls ((rd_T33 l3 x12_2).f0) a1 true _ A33.out).mono ?_); rintro e w' ⟨rfl, ⟨nd, rfl⟩⟩; refine ⟨_, rfl, ?_⟩) | (go_at_call 27; (with_reducible refine (spec_l4State.calls ((rd_T33 l3 x12_2).f2) a1 true _ A35.out).mono ?_); rintro e w' ⟨rfl, ⟨nd, rfl⟩⟩) | (go_at_call 28; (with_reducible refine (spec_l1In.calls ((rd_T33 l3 x12_2).f1) 0 (wrap64 (a0 - 1)) t186 _ A37.out).mono ?_); rintro e w' ⟨rfl, ⟨nd, rfl⟩⟩))
             (first | go_meet | ((try simp only [← hji21]); go_meet))
             case rel => exact ⟨_, (!t186), (by first | rfl | (simp; done) | (simp [*]; done) | (rw [Int.tmod_eq_emod_of_nonneg (Int.natCast_nonneg _)]; done)), (by first | exact H' | (have h_ := H'; (try simp only [← hji21] at h_); (try simp only [← hji21]); exact h_)), ⟨by have := HJ4.out; have := HK2.out; first | omega | exact Nat.le_refl _⟩, ⟨by (with_reducible repeat (first | apply Kd.R_alloc | apply Kd.R_drewN | apply Kd.R_drew)); exact Kd.R_mono (Kd.R_far (p := ⟨gb183, 3, none⟩) (Kd.R_far (p := ⟨gb183, 2, none⟩) (Kd.R_far (p := ⟨gb183, 1, none⟩) (Kd.R_far (p := ⟨gb183, 0, none⟩) (Kd.R_types HO_11.out BK183.out (by decide)) (fun _ hk => hk.2) (.int .i64 ((rd_T33 l3 x12_2).f0))) (fun _ hk => hk.2) (.int .i64 ((rd_T33 l3 x12_2).f1))) (fun _ hk => hk.2) (.int .i64 ((rd_T33 l3 x12_2).f2))) (fun _ hk => hk.2) (.bool ((rd_T33 l3 x12_2).f3))) (fun _ hk => trivial)⟩, ⟨zB BK176.out⟩, ⟨zB BK177.out⟩, ⟨by (with_reducible repeat (first | refine blk_drewN ?_ _ | refine blk_drew ?_ | refine blk_alloc ?_ _)); refine blk_put (cs := #[.int .i64 ((rd_T33 l3 x12_2).f0), .int .i64 ((rd_T33 l3 x12_2).f1), .int .i64 ((rd_T33 l3 x12_2).f2), .bool false]) ?_ 3 _ rfl; (with_reducible repeat (first | refine blk_drewN ?_ _ | refine blk_drew ?_ | refine blk_alloc ?_ _)); refine blk_put (cs := #[.int .i64 ((rd_T33 l3 x12_2).f0), .int .i64 ((rd_T33 l3 x12_2).f1), .int .i64 0, .bool false]) ?_ 2 _ rfl; (with_reducible repeat (first | refine blk_drewN ?_ _ | refine blk_drew ?_ | refine blk_alloc ?_ _)); refine blk_put (cs := #[.int .i64 ((rd_T33 l3 x12_2).f0), .int .i64 0, .int .i64 0, .bool false]) ?_ 1 _ rfl; (with_reducible repeat (first | refine blk_drewN ?_ _ | refine blk_drew ?_ | refine blk_alloc ?_ _)); refine blk_put (cs := #[.int .i64 0, .int .i64 0, .int .i64 0, .bool false]) ?_ 0 _ rfl; (with_reducible repeat (first | refine blk_drewN ?_ _ | refine blk_drew ?_ | refine blk_alloc ?_ _)); exact BK183.out⟩, ⟨zS HB.out⟩⟩
            ·replace c36 := Bool.eq_false_iff.mpr c36; subst c36
             have H1 : (spec_AutoMake.j2 k2 a0 a1 l3 x11_2 x12_2 true a0 a1 a2 ((rd_T33 l3 x12_2).f0) ((rd_T33 l3 x12_2).f1) ((rd_T33 l3 x12_2).f2) ((rd_T33 l3 x12_2).f3)) = some (r1, r2, r3, r4, r5) := by rw [if_neg (show ¬ (false = true) by decide)] at H; exact H
             clear H; have H := H1; clear H1; have H' := Aside0.mk H; clear H; have hnb41 := NB183_176.out; have hnc41 := NB176_183.out; have hnb42 := NB183_177.out; have hnc42 := NB177_183.out; have hcz43_0 : w29.cell? ⟨gb183, 0, none⟩ = some (.int .i64 0) := b1 BK183 0; have hcz43_1 : w29.cell? ⟨gb183, 1, none⟩ = some (.int .i64 0) := b1 BK183 1; have hcz43_2 : w29.cell? ⟨gb183, 2, none⟩ = some (.int .i64 0) := b1 BK183 2; have hcz43_3 : w29.cell? ⟨gb183, 3, none⟩ = some (.bool false) := b1 BK183 3; have hfz43_0 := blk_frozen BK183.out 0; have hfz43_1 := blk_frozen BK183.out 1; have hfz43_2 := blk_frozen BK183.out 2; have hfz43_3 := blk_frozen BK183.out 3
             go_wp2_with (first | ((with_reducible refine gate_callee (f := 27) rfl ?_); refine goesL_ (some 49) rfl rfl Try.func27 (by kernel_rfl) rfl #[.int .i64 ((rd_T33 l3 x12_2).f0), .int .i64 a1] rfl (by (try simp only [m3]); first | done | rfl | (simp only [d2]; rfl)) ?_; (with_reducible refine (spec_l4State.calls ((rd_T33 l3 x12_2).f0) a1 true _ A33.out).mono ?_); rintro e w' ⟨rfl, ⟨nd, rfl⟩⟩; refine ⟨_, rfl, ?_⟩) | (go_at_call 27; (with_reducible refine (spec_l4State.calls ((rd_T33 l3 x12_2).f2) a1 false _ A35.out).mono ?_); rintro e w' ⟨rfl, ⟨nd, rfl⟩⟩))
             (first | go_meet | ((try simp only [← hji21]); go_meet))
             case rel => exact ⟨_, (true), (by first | rfl | (simp; done) | (simp [*]; done) | (rw [Int.tmod_eq_emod_of_nonneg (Int.natCast_nonneg _)]; done)), (by first | exact H' | (have h_ := H'; (try simp only [← hji21] at h_); (try simp only [← hji21]); exact h_)), ⟨by have := HJ4.out; have := HK2.out; first | omega | exact Nat.le_refl _⟩, ⟨by (with_reducible repeat (first | apply Kd.R_alloc | apply Kd.R_drewN | apply Kd.R_drew)); exact Kd.R_mono (Kd.R_far (p := ⟨gb183, 3, none⟩) (Kd.R_far (p := ⟨gb183, 2, none⟩) (Kd.R_far (p := ⟨gb183, 1, none⟩) (Kd.R_far (p := ⟨gb183, 0, none⟩) (Kd.R_types HO_11.out BK183.out (by decide)) (fun _ hk => hk.2) (.int .i64 ((rd_T33 l3 x12_2).f0))) (fun _ hk => hk.2) (.int .i64 ((rd_T33 l3 x12_2).f1))) (fun _ hk => hk.2) (.int .i64 ((rd_T33 l3 x12_2).f2))) (fun _ hk => hk.2) (.bool ((rd_T33 l3 x12_2).f3))) (fun _ hk => trivial)⟩, ⟨zB BK176.out⟩, ⟨zB BK177.out⟩, ⟨by (with_reducible repeat (first | refine blk_drewN ?_ _ | refine blk_drew ?_ | refine blk_alloc ?_ _)); refine blk_put (cs := #[.int .i64 ((rd_T33 l3 x12_2).f0), .int .i64 ((rd_T33 l3 x12_2).f1), .int .i64 ((rd_T33 l3 x12_2).f2), .bool false]) ?_ 3 _ rfl; (with_reducible repeat (first | refine blk_drewN ?_ _ | refine blk_drew ?_ | refine blk_alloc ?_ _)); refine blk_put (cs := #[.int .i64 ((rd_T33 l3 x12_2).f0), .int .i64 ((rd_T33 l3 x12_2).f1), .int .i64 0, .bool false]) ?_ 2 _ rfl; (with_reducible repeat (first | refine blk_drewN ?_ _ | refine blk_drew ?_ | refine blk_alloc ?_ _)); refine blk_put (cs := #[.int .i64 ((rd_T33 l3 x12_2).f0), .int .i64 0, .int .i64 0, .bool false]) ?_ 1 _ rfl; (with_reducible repeat (first | refine blk_drewN ?_ _ | refine blk_drew ?_ | refine blk_alloc ?_ _)); refine blk_put (cs := #[.int .i64 0, .int .i64 0, .int .i64 0, .bool false]) ?_ 0 _ rfl; (with_reducible repeat (first | refine blk_drewN ?_ _ | refine blk_drew ?_ | refine blk_alloc ?_ _)); exact BK183.out⟩, ⟨zS HB.out⟩⟩
           ·replace c34 := Bool.eq_false_iff.mpr c34; subst c34
            have H1 : (spec_AutoMake.j2 k2 a0 a1 l3 x11_2 x12_2 true a0 a1 a2 ((rd_T33 l3 x12_2).f0) ((rd_T33 l3 x12_2).f1) ((rd_T33 l3 x12_2).f2) ((rd_T33 l3 x12_2).f3)) = some (r1, r2, r3, r4, r5) := by rw [if_neg (show ¬ (false = true) by decide)] at H; exact H
            clear H; have H := H1; clear H1; have H' := Aside0.mk H; clear H; have hnb44 := NB183_176.out; have hnc44 := NB176_183.out; have hnb45 := NB183_177.out; have hnc45 := NB177_183.out; have hcz46_0 : w29.cell? ⟨gb183, 0, none⟩ = some (.int .i64 0) := b1 BK183 0; have hcz46_1 : w29.cell? ⟨gb183, 1, none⟩ = some (.int .i64 0) := b1 BK183 1; have hcz46_2 : w29.cell? ⟨gb183, 2, none⟩ = some (.int .i64 0) := b1 BK183 2; have hcz46_3 : w29.cell? ⟨gb183, 3, none⟩ = some (.bool false) := b1 BK183 3; have hfz46_0 := blk_frozen BK183.out 0; have hfz46_1 := blk_frozen BK183.out 1; have hfz46_2 := blk_frozen BK183.out 2; have hfz46_3 := blk_frozen BK183.out 3
            go_wp2_with (first | ((with_reducible refine gate_callee (f := 27) rfl ?_); refine goesL_ (some 49) rfl rfl Try.func27 (by kernel_rfl) rfl #[.int .i64 ((rd_T33 l3 x12_2).f0), .int .i64 a1] rfl (by (try simp only [m3]); first | done | rfl | (simp only [d2]; rfl)) ?_; (with_reducible refine (spec_l4State.calls ((rd_T33 l3 x12_2).f0) a1 false _ A33.out).mono ?_); rintro e w' ⟨rfl, ⟨nd, rfl⟩⟩; refine ⟨_, rfl, ?_⟩))
            (first | go_meet | ((try simp only [← hji21]); go_meet))
            case rel => exact ⟨_, (true), (by first | rfl | (simp; done) | (simp [*]; done) | (rw [Int.tmod_eq_emod_of_nonneg (Int.natCast_nonneg _)]; done)), (by first | exact H' | (have h_ := H'; (try simp only [← hji21] at h_); (try simp only [← hji21]); exact h_)), ⟨by have := HJ4.out; have := HK2.out; first | omega | exact Nat.le_refl _⟩, ⟨by (with_reducible repeat (first | apply Kd.R_alloc | apply Kd.R_drewN | apply Kd.R_drew)); exact Kd.R_mono (Kd.R_far (p := ⟨gb183, 3, none⟩) (Kd.R_far (p := ⟨gb183, 2, none⟩) (Kd.R_far (p := ⟨gb183, 1, none⟩) (Kd.R_far (p := ⟨gb183, 0, none⟩) (Kd.R_types HO_11.out BK183.out (by decide)) (fun _ hk => hk.2) (.int .i64 ((rd_T33 l3 x12_2).f0))) (fun _ hk => hk.2) (.int .i64 ((rd_T33 l3 x12_2).f1))) (fun _ hk => hk.2) (.int .i64 ((rd_T33 l3 x12_2).f2))) (fun _ hk => hk.2) (.bool ((rd_T33 l3 x12_2).f3))) (fun _ hk => trivial)⟩, ⟨zB BK176.out⟩, ⟨zB BK177.out⟩, ⟨by (with_reducible repeat (first | refine blk_drewN ?_ _ | refine blk_drew ?_ | refine blk_alloc ?_ _)); refine blk_put (cs := #[.int .i64 ((rd_T33 l3 x12_2).f0), .int .i64 ((rd_T33 l3 x12_2).f1), .int .i64 ((rd_T33 l3 x12_2).f2), .bool false]) ?_ 3 _ rfl; (with_reducible repeat (first | refine blk_drewN ?_ _ | refine blk_drew ?_ | refine blk_alloc ?_ _)); refine blk_put (cs := #[.int .i64 ((rd_T33 l3 x12_2).f0), .int .i64 ((rd_T33 l3 x12_2).f1), .int .i64 0, .bool false]) ?_ 2 _ rfl; (with_reducible repeat (first | refine blk_drewN ?_ _ | refine blk_drew ?_ | refine blk_alloc ?_ _)); refine blk_put (cs := #[.int .i64 ((rd_T33 l3 x12_2).f0), .int .i64 0, .int .i64 0, .bool false]) ?_ 1 _ rfl; (with_reducible repeat (first | refine blk_drewN ?_ _ | refine blk_drew ?_ | refine blk_alloc ?_ _)); refine blk_put (cs := #[.int .i64 0, .int .i64 0, .int .i64 0, .bool false]) ?_ 0 _ rfl; (with_reducible repeat (first | refine blk_drewN ?_ _ | refine blk_drew ?_ | refine blk_alloc ?_ _)); exact BK183.out⟩, ⟨zS HB.out⟩⟩
          case rest =>
           clear HC28
           try clear c1
           try clear p1
           try clear q1
           try clear hx1
           try clear c2
           try clear p2
           try clear c3
           try clear c4
           try clear p6
           try clear c8
           try clear c11
           try clear c12
           try clear c15
           try clear c18
           try clear p18
           try clear q18
           try clear hx18
           try clear c19
           try clear c22
           try clear c22b0
           try clear c22b1
           try clear c23
           try clear c23b0
           try clear c23b1
           try clear c26
           try clear c26b0
           try clear c27
           try clear c27b0
           try clear c30
           try clear c31
           try clear c34
           try clear c36
           try clear c38
           try clear c39
           try clear c41
           try clear c42
           try clear c44
           try clear c45
           try clear hcz13_0
           try clear hcz13_1
           try clear hcz13_2
           try clear hcz13_3
           try clear hcz16_0
           try clear hcz16_1
           try clear hcz16_2
           try clear hcz16_3
           try clear hcz20_0
           try clear hcz20_1
           try clear hcz20_2
           try clear hcz20_3
           try clear hcz32_0
           try clear hcz32_1
           try clear hcz32_2
           try clear hcz32_3
           try clear hcz40_0
           try clear hcz40_1
           try clear hcz40_2
           try clear hcz40_3
           try clear hcz43_0
           try clear hcz43_1
           try clear hcz43_2
           try clear hcz43_3
           try clear hcz46_0
           try clear hcz46_1
           try clear hcz46_2
           try clear hcz46_3
           try clear hcz9_0
           try clear hcz9_1
           try clear hcz9_2
           try clear hcz9_3
           try clear hfz13_0
           try clear hfz13_1
           try clear hfz13_2
           try clear hfz13_3
           try clear hfz16_0
           try clear hfz16_1
           try clear hfz16_2
           try clear hfz16_3
           try clear hfz20_0
           try clear hfz20_1
           try clear hfz20_2
           try clear hfz20_3
           try clear hfz32_0
           try clear hfz32_1
           try clear hfz32_2
           try clear hfz32_3
           try clear hfz40_0
           try clear hfz40_1
           try clear hfz40_2
           try clear hfz40_3
           try clear hfz43_0
           try clear hfz43_1
           try clear hfz43_2
           try clear hfz43_3
           try clear hfz46_0
           try clear hfz46_1
           try clear hfz46_2
           try clear hfz46_3
           try clear hfz9_0
           try clear hfz9_1
           try clear hfz9_2
           try clear hfz9_3
           try clear hx182_0
           try clear hx182_1
           try clear hx182_2
           try clear hx182_3
           try clear p182
           try clear p2
           try clear p6
           try clear q182
           obtain ⟨kq, x65_27, rfl, HA, HJ27, HO_11, BK176, BK177, BK183, HB⟩ := hcut
           cases kq with
           | zero => exact absurd HA.out (by simp [spec_AutoMake.j2])
           | succ kj27 =>
            have H := HA.out; clear HA; simp only [spec_AutoMake.j2] at H
            by_cases c47 : x65_27 = true
            ·subst c47
             have H1 : (some (0, 0, 0, ([] : List (S33)), false)) = some (r1, r2, r3, r4, r5) := by rw [if_pos rfl] at H; exact H
             clear H; have H := H1; clear H1; simp only [Option.some.injEq, Prod.mk.injEq] at H; obtain ⟨rfl, rfl, rfl, rfl, rfl⟩ := H; have hnb48 := NB176_177.out; have hnc48 := NB177_176.out; have hnb49 := NB176_183.out; have hnc49 := NB183_176.out; have hcz50_0 : wc.cell? ⟨gb176, 0, none⟩ = some (.int .i64 x177000_2) := b1 BK176 0; have hcz50_1 : wc.cell? ⟨gb176, 1, none⟩ = some (.int .i64 x177001_2) := b1 BK176 1; have hcz50_2 : wc.cell? ⟨gb176, 2, none⟩ = some (.int .i64 x177002_2) := b1 BK176 2; have hcz50_3 : wc.cell? ⟨gb176, 3, none⟩ = some (.slice none 0 0) := b1 BK176 3; have hfz50_0 := blk_frozen BK176.out 0; have hfz50_1 := blk_frozen BK176.out 1; have hfz50_2 := blk_frozen BK176.out 2; have hfz50_3 := blk_frozen BK176.out 3
             go_wp2
             refine bodyPost_ret (results_ct rfl _ _ gb176 28 #[.int .i64 0, .int .i64 0, .int .i64 0, .slice none 0 0] (0, 0) _ rfl (xP4 BK176.out) Try.underlying28 rfl (by kernel_rfl)) rfl ?_; exact ⟨_, by first | rfl | (simp [errW_none, errW_some] <;> rfl) | (simp only [← hji21]; first | rfl | (simp [errW_none, errW_some] <;> rfl)) | (simp [*, errW_none, errW_some] <;> rfl), by first | exact Kd.R_nil _ _ _ _ _ | exact Kd.N_nil _ _ _ _ _ | exact Kd.V_nil _ _ _ _ _ | exact Kd.Q_nil _ _ _ _ _ | exact Kd.S_nil _ _ _ _ _, by repeat (first | (with_reducible first | exact HB.out | apply below_alloc | apply pw_below_drewN | apply below_drew1 | refine below_set ?_ GE176.out | refine below_set ?_ GE177.out | refine below_set ?_ GE183.out) | exact HB.out)⟩
            ·replace c47 := Bool.eq_false_iff.mpr c47; subst c47
             have H1 : (if ((rd_T33 l3 x12_2).f3) = true then (if 0 ≤ (wrap64 ((wrap64 ((wrap64 ((wrap64 (((rd_T33 l3 x12_2).f0) * a0)) + ((rd_T33 l3 x12_2).f1))) * a1)) + ((rd_T33 l3 x12_2).f2))) then (if (wrap64 ((wrap64 ((wrap64 ((wrap64 (((rd_T33 l3 x12_2).f0) * a0)) + ((rd_T33 l3 x12_2).f1))) * a1)) + ((rd_T33 l3 x12_2).f2))) < (x11_2.length : Int) then ((spec_l1Max.f (rd x11_2 (wrap64 ((wrap64 ((wrap64 ((wrap64 (((rd_T33 l3 x12_2).f0) * a0)) + ((rd_T33 l3 x12_2).f1))) * a1)) + ((rd_T33 l3 x12_2).f2)))) 2).bind fun t188 => (spec_AutoMake.l0 kj27 a0 a1 l3 (x11_2.set ((wrap64 ((wrap64 ((wrap64 ((wrap64 (((rd_T33 l3 x12_2).f0) * a0)) + ((rd_T33 l3 x12_2).f1))) * a1)) + ((rd_T33 l3 x12_2).f2))) : Int).toNat t188) (wrap64 (x12_2 + 1)) a0 a1 a2)) else (none)) else (none)) else (if 0 ≤ (wrap64 ((wrap64 ((wrap64 ((wrap64 (((rd_T33 l3 x12_2).f0) * a0)) + ((rd_T33 l3 x12_2).f1))) * a1)) + ((rd_T33 l3 x12_2).f2))) then (if (wrap64 ((wrap64 ((wrap64 ((wrap64 (((rd_T33 l3 x12_2).f0) * a0)) + ((rd_T33 l3 x12_2).f1))) * a1)) + ((rd_T33 l3 x12_2).f2))) < (x11_2.length : Int) then ((spec_l1Max.f (rd x11_2 (wrap64 ((wrap64 ((wrap64 ((wrap64 (((rd_T33 l3 x12_2).f0) * a0)) + ((rd_T33 l3 x12_2).f1))) * a1)) + ((rd_T33 l3 x12_2).f2)))) 1).bind fun t191 => (spec_AutoMake.l0 kj27 a0 a1 l3 (x11_2.set ((wrap64 ((wrap64 ((wrap64 ((wrap64 (((rd_T33 l3 x12_2).f0) * a0)) + ((rd_T33 l3 x12_2).f1))) * a1)) + ((rd_T33 l3 x12_2).f2))) : Int).toNat t191) (wrap64 (x12_2 + 1)) a0 a1 a2)) else (none)) else (none))) = some (r1, r2, r3, r4, r5) := by rw [if_neg (show ¬ (false = true) by decide)] at H; exact H
             clear H; have H := H1; clear H1
             by_cases c51 : ((rd_T33 l3 x12_2).f3) = true
             ·rw [if_pos c51] at H; have c51b0 : ((rd_T33 l3 x12_2).f3) = true := c51; clear c51; obtain ⟨ji52, hji52⟩ : ∃ j_ : Int, (wrap64 ((wrap64 ((wrap64 ((wrap64 (((rd_T33 l3 x12_2).f0) * a0)) + ((rd_T33 l3 x12_2).f1))) * a1)) + ((rd_T33 l3 x12_2).f2))) = j_ := ⟨_, rfl⟩
              replace H : (if 0 ≤ (ji52) then (if (ji52) < (x11_2.length : Int) then ((spec_l1Max.f (rd x11_2 (ji52)) 2).bind fun t188 => (spec_AutoMake.l0 kj27 a0 a1 l3 (x11_2.set ((ji52) : Int).toNat t188) (wrap64 (x12_2 + 1)) a0 a1 a2)) else (none)) else (none)) = some (r1, r2, r3, r4, r5) := by first | (rw [hji52] at H; exact H) | (simp only [hji52] at H ⊢; exact H)
              have hji52w : (IntKind.i64.wrap ((wrap64 ((wrap64 ((wrap64 (((rd_T33 l3 x12_2).f0) * a0)) + ((rd_T33 l3 x12_2).f1))) * a1)) + ((rd_T33 l3 x12_2).f2))) = ji52 := (i64_w _).trans hji52
              by_cases c53 : 0 ≤ (ji52)
              ·rw [if_pos c53] at H; have c53b0 : decide (0 ≤ (ji52)) = true := decide_eq_true c53; clear c53
               by_cases c54 : (ji52) < (x11_2.length : Int)
               ·rw [if_pos c54] at H; have c54b0 : decide ((ji52) < (x11_2.length : Int)) = true := decide_eq_true c54; clear c54; replace H := Option.bind_eq_some_iff.mp H; obtain ⟨t188, A550, H⟩ := H; replace H : (spec_AutoMake.l0 kj27 a0 a1 l3 (x11_2.set ((ji52) : Int).toNat t188) (wrap64 (x12_2 + 1)) a0 a1 a2) = some (r1, r2, r3, r4, r5) := H; have A55 := Aside0.mk A550; clear A550; obtain ⟨y189, hy189⟩ : ∃ y_ : List Int, y_ = (x11_2.set ((ji52) : Int).toNat t188) := ⟨_, rfl⟩
                replace H : (spec_AutoMake.l0 kj27 a0 a1 l3 y189 (wrap64 (x12_2 + 1)) a0 a1 a2) = some (r1, r2, r3, r4, r5) := by first | (rw [hy189]; with_reducible exact H) | (have H2_ := (Option.bind_some _ _).symm.trans H; rw [hy189]; with_reducible exact H2_) | (have H2_ := (Option.bind_some _ _).symm.trans H; with_reducible exact H2_) | with_reducible exact H | (rw [hy189]; exact H) | exact H
                have Ny189 := Aside0.mk hy189; clear hy189; have H' := Aside0.mk H; clear H; have hnb57 := NB183_176.out; have hnc57 := NB176_183.out; have hnb58 := NB183_177.out; have hnc58 := NB177_183.out; have hcz59_0 : wc.cell? ⟨gb183, 0, none⟩ = some (.int .i64 ((rd_T33 l3 x12_2).f0)) := b1 BK183 0; have hcz59_1 : wc.cell? ⟨gb183, 1, none⟩ = some (.int .i64 ((rd_T33 l3 x12_2).f1)) := b1 BK183 1; have hcz59_2 : wc.cell? ⟨gb183, 2, none⟩ = some (.int .i64 ((rd_T33 l3 x12_2).f2)) := b1 BK183 2; have hcz59_3 : wc.cell? ⟨gb183, 3, none⟩ = some (.bool ((rd_T33 l3 x12_2).f3)) := b1 BK183 3; have hfz59_0 := blk_frozen BK183.out 0; have hfz59_1 := blk_frozen BK183.out 1; have hfz59_2 := blk_frozen BK183.out 2; have hfz59_3 := blk_frozen BK183.out 3; obtain ⟨Ao60, co60, eo60⟩ := Kd.R_slice HO_11.out; subst eo60; have p187 : 0 ≤ ((ji52) : Int) := of_decide_eq_true (by first | (with_reducible assumption) | assumption); have q187 : (ji52) < (x11_2.length : Int) := of_decide_eq_true (by first | (with_reducible assumption) | assumption); obtain ⟨ad187, e187, hx187_0⟩ := Kd.at_int (Kd.R_reads' HO_11.out).2.2 (ji52) p187 q187
                cases e187
                replace p187 := eq_true p187; replace q187 := eq_true q187
                go_wp2_with (first | ((with_reducible refine gate_callee (f := 23) rfl ?_); refine goesL_ (some 88) rfl rfl Try.func23 (by kernel_rfl) rfl #[.int .i64 (rd x11_2 (ji52)), .int .i64 2] rfl (by (try simp only [m3]); first | done | (simp only [hji52]; rfl) | rfl | (simp only [d2]; rfl)) ?_; (with_reducible refine (spec_l1Max.calls (rd x11_2 (ji52)) 2 t188 _ A55.out).mono ?_); rintro e w' ⟨rfl, ⟨nd, rfl⟩⟩; refine ⟨_, rfl, ?_⟩; (try (rw [drewN_self wc]; generalize hq_ : World.drewN wc _ = wc; have n0_ : Aside0 (Kd.R (Kd.int .i64) 3 wc w.heap.size (fun k_ => True) (.slice (some ad187) x11_2.length co60) x11_2) := ⟨by rw [← hq_]; exact (zR HO_11.out)⟩; have n1_ : Aside0 (wc.heap[gb176]? = some (.cells #[.int .i64 x177000_2, .int .i64 x177001_2, .int .i64 x177002_2, .slice none 0 0] 28 (0, 0))) := ⟨by rw [← hq_]; exact (zB BK176.out)⟩; have n2_ : Aside0 (wc.heap[gb177]? = some (.cells #[.int .i64 a0, .int .i64 a1, .int .i64 a2, .slice none 0 0] 28 (0, 0))) := ⟨by rw [← hq_]; exact (zB BK177.out)⟩; have n3_ : Aside0 (wc.heap[gb183]? = some (.cells #[.int .i64 ((rd_T33 l3 x12_2).f0), .int .i64 ((rd_T33 l3 x12_2).f1), .int .i64 ((rd_T33 l3 x12_2).f2), .bool ((rd_T33 l3 x12_2).f3)] 33 (0, 0))) := ⟨by rw [← hq_]; exact (zB BK183.out)⟩; have n4_ : Aside0 (Below w.heap.size w wc) := ⟨by rw [← hq_]; exact (zS HB.out)⟩; clear HO_11 BK176 BK177 BK183 HB hq_; have HO_11 := n0_; have BK176 := n1_; have BK177 := n2_; have BK183 := n3_; have HB := n4_; clear n0_ n1_ n2_ n3_ n4_; have hcz59_0 : wc.cell? ⟨gb183, 0, none⟩ = some (.int .i64 ((rd_T33 l3 x12_2).f0)) := b1 BK183 0; have hfz59_0 := blk_frozen BK183.out 0; have hcz59_1 : wc.cell? ⟨gb183, 1, none⟩ = some (.int .i64 ((rd_T33 l3 x12_2).f1)) := b1 BK183 1; have hfz59_1 := blk_frozen BK183.out 1; have hcz59_2 : wc.cell? ⟨gb183, 2, none⟩ = some (.int .i64 ((rd_T33 l3 x12_2).f2)) := b1 BK183 2; have hfz59_2 := blk_frozen BK183.out 2; have hcz59_3 : wc.cell? ⟨gb183, 3, none⟩ = some (.bool ((rd_T33 l3 x12_2).f3)) := b1 BK183 3; have hfz59_3 := blk_frozen BK183.out 3)); have p56 : 0 ≤ ((ji52) : Int) := of_decide_eq_true (by first | (with_reducible assumption) | assumption); have q56 : ((ji52) : Int) < ((x11_2.length : Int) : Int) := of_decide_eq_true (by first | (with_reducible assumption) | assumption); obtain ⟨go56, co56, eo56, gb56, gl56, cl56, HG56⟩ := Kd.R_form HO_11.out (by omega); (first | cases eo56 | (injection eo56 with ea_ en_ ec_; (first | subst ea_ | (injection ea_ with ea_; subst ea_)); subst ec_; clear en_)); have GB56 := Aside0.mk gb56; have GG56 := Aside0.mk HG56; clear gb56 gl56 HG56; (first | simp only [add_plain] at hx187_0 | skip); obtain ⟨hx56_0, hf56_0⟩ := Kd.R_celln 0 HO_11.out ((ji52) : Int) p56 q56; replace p56 := eq_true p56; replace q56 := eq_true q56; obtain ⟨hy61_, hz61_⟩ := Kd.R_celln 0 HO_11.out ((ji52) : Int) (of_decide_eq_true (by first | (with_reducible assumption) | assumption)) (of_decide_eq_true (by first | (with_reducible assumption) | assumption)); have HP61 := Kd.R_putg HO_11.out ((ji52) : Int) t188) | ((with_reducible refine gate_store (t := 3) (p := 89) rfl ?_); refine store_event (t := 3) (p := 89) (v := ?vo_w62) (w1 := (wc.setCell ⟨go56, ((ji52) : Int).toNat, none⟩ (.int .i64 t188))) ?hg ?ho ?hn ?hr ?_; (case ho => rfl); (case hg => rfl); (case hn => rfl); (case hr => first | (go_simp; done) | (go_simp; rfl)); intro w62 hw; have hg : wc.grownBy w62 (some go56) := (by rw [hw]; exact HP61.2); have hp_ : Kd.R (Kd.int .i64) 3 w62 w.heap.size (fun _ => True) (.slice (some ⟨go56, 0, none⟩) x11_2.length co60) y189 := (by rw [hw, Ny189.out]; exact HP61.1); clear HP61; replace BK176 := Aside0.mk (blk_grown (g := gb176) (o := .cells #[.int .i64 x177000_2, .int .i64 x177001_2, .int .i64 x177002_2, .slice none 0 0] 28 (0, 0)) (zB BK176.out) hg (Kd.R_ne HO_11.out BK176.out (by decide))); replace BK177 := Aside0.mk (blk_grown (g := gb177) (o := .cells #[.int .i64 a0, .int .i64 a1, .int .i64 a2, .slice none 0 0] 28 (0, 0)) (zB BK177.out) hg (Kd.R_ne HO_11.out BK177.out (by decide))); replace BK183 := Aside0.mk (blk_grown (g := gb183) (o := .cells #[.int .i64 ((rd_T33 l3 x12_2).f0), .int .i64 ((rd_T33 l3 x12_2).f1), .int .i64 ((rd_T33 l3 x12_2).f2), .bool ((rd_T33 l3 x12_2).f3)] 33 (0, 0)) (zB BK183.out) hg (Kd.R_ne HO_11.out BK183.out (by decide))); replace HO_11 := Aside0.mk (hp_); replace HB := Aside0.mk ((by rw [hw]; exact below_set (HB.out) GB56.out : Below w.heap.size w w62)); clear hg hw hp_))
                (first | go_roundg kj27 | ((try simp only [← hji21]); (try simp only [← hji52]); go_roundg kj27))
                case measure => have := HJ4.out; have := HK2.out; have := HJ27.out; omega
                case rel => exact ⟨(y189), (wrap64 (x12_2 + 1)), (x177000_2), (x177001_2), (x177002_2), (by first | rfl | (simp; done) | (simp [*]; done) | (rw [Int.tmod_eq_emod_of_nonneg (Int.natCast_nonneg _)]; done)), (by first | exact H' | (have h_ := H'; (try simp only [← hji21] at h_); (try simp only [← hji21]); (try simp only [← hji52] at h_); (try simp only [← hji52]); exact h_)), ⟨by have := HJ4.out; have := HK2.out; have := HJ27.out; omega⟩, ⟨zR HO_11.out⟩, ⟨zB BK176.out⟩, ⟨zB BK177.out⟩, ⟨zS HB.out⟩⟩
               ·rw [if_neg c54] at H; exact absurd H (by simp)
              ·rw [if_neg c53] at H; exact absurd H (by simp)
             ·rw [if_neg c51] at H
              have c51b0 : ((rd_T33 l3 x12_2).f3) = false := by simpa using c51
              clear c51; obtain ⟨ji63, hji63⟩ : ∃ j_ : Int, (wrap64 ((wrap64 ((wrap64 ((wrap64 (((rd_T33 l3 x12_2).f0) * a0)) + ((rd_T33 l3 x12_2).f1))) * a1)) + ((rd_T33 l3 x12_2).f2))) = j_ := ⟨_, rfl⟩
              replace H : (if 0 ≤ (ji63) then (if (ji63) < (x11_2.length : Int) then ((spec_l1Max.f (rd x11_2 (ji63)) 1).bind fun t191 => (spec_AutoMake.l0 kj27 a0 a1 l3 (x11_2.set ((ji63) : Int).toNat t191) (wrap64 (x12_2 + 1)) a0 a1 a2)) else (none)) else (none)) = some (r1, r2, r3, r4, r5) := by first | (rw [hji63] at H; exact H) | (simp only [hji63] at H ⊢; exact H)
              have hji63w : (IntKind.i64.wrap ((wrap64 ((wrap64 ((wrap64 (((rd_T33 l3 x12_2).f0) * a0)) + ((rd_T33 l3 x12_2).f1))) * a1)) + ((rd_T33 l3 x12_2).f2))) = ji63 := (i64_w _).trans hji63
              by_cases c64 : 0 ≤ (ji63)
              ·rw [if_pos c64] at H; have c64b0 : decide (0 ≤ (ji63)) = true := decide_eq_true c64; clear c64
               by_cases c65 : (ji63) < (x11_2.length : Int)
               ·rw [if_pos c65] at H; have c65b0 : decide ((ji63) < (x11_2.length : Int)) = true := decide_eq_true c65; clear c65; replace H := Option.bind_eq_some_iff.mp H; obtain ⟨t191, A660, H⟩ := H; replace H : (spec_AutoMake.l0 kj27 a0 a1 l3 (x11_2.set ((ji63) : Int).toNat t191) (wrap64 (x12_2 + 1)) a0 a1 a2) = some (r1, r2, r3, r4, r5) := H; have A66 := Aside0.mk A660; clear A660; obtain ⟨y192, hy192⟩ : ∃ y_ : List Int, y_ = (x11_2.set ((ji63) : Int).toNat t191) := ⟨_, rfl⟩
                replace H : (spec_AutoMake.l0 kj27 a0 a1 l3 y192 (wrap64 (x12_2 + 1)) a0 a1 a2) = some (r1, r2, r3, r4, r5) := by first | (rw [hy192]; with_reducible exact H) | (have H2_ := (Option.bind_some _ _).symm.trans H; rw [hy192]; with_reducible exact H2_) | (have H2_ := (Option.bind_some _ _).symm.trans H; with_reducible exact H2_) | with_reducible exact H | (rw [hy192]; exact H) | exact H
                have Ny192 := Aside0.mk hy192; clear hy192; have H' := Aside0.mk H; clear H; have hnb68 := NB183_176.out; have hnc68 := NB176_183.out; have hnb69 := NB183_177.out; have hnc69 := NB177_183.out; have hcz70_0 : wc.cell? ⟨gb183, 0, none⟩ = some (.int .i64 ((rd_T33 l3 x12_2).f0)) := b1 BK183 0; have hcz70_1 : wc.cell? ⟨gb183, 1, none⟩ = some (.int .i64 ((rd_T33 l3 x12_2).f1)) := b1 BK183 1; have hcz70_2 : wc.cell? ⟨gb183, 2, none⟩ = some (.int .i64 ((rd_T33 l3 x12_2).f2)) := b1 BK183 2; have hcz70_3 : wc.cell? ⟨gb183, 3, none⟩ = some (.bool ((rd_T33 l3 x12_2).f3)) := b1 BK183 3; have hfz70_0 := blk_frozen BK183.out 0; have hfz70_1 := blk_frozen BK183.out 1; have hfz70_2 := blk_frozen BK183.out 2; have hfz70_3 := blk_frozen BK183.out 3; obtain ⟨Ao71, co71, eo71⟩ := Kd.R_slice HO_11.out; subst eo71; have p190 : 0 ≤ ((ji63) : Int) := of_decide_eq_true (by first | (with_reducible assumption) | assumption); have q190 : (ji63) < (x11_2.length : Int) := of_decide_eq_true (by first | (with_reducible assumption) | assumption); obtain ⟨ad190, e190, hx190_0⟩ := Kd.at_int (Kd.R_reads' HO_11.out).2.2 (ji63) p190 q190
                cases e190
                replace p190 := eq_true p190; replace q190 := eq_true q190
                go_wp2_with (first | ((with_reducible refine gate_callee (f := 23) rfl ?_); refine goesL_ (some 88) rfl rfl Try.func23 (by kernel_rfl) rfl #[.int .i64 (rd x11_2 (ji63)), .int .i64 1] rfl (by (try simp only [m3]); first | done | (simp only [hji63]; rfl) | rfl | (simp only [d2]; rfl)) ?_; (with_reducible refine (spec_l1Max.calls (rd x11_2 (ji63)) 1 t191 _ A66.out).mono ?_); rintro e w' ⟨rfl, ⟨nd, rfl⟩⟩; refine ⟨_, rfl, ?_⟩; (try (rw [drewN_self wc]; generalize hq_ : World.drewN wc _ = wc; have n0_ : Aside0 (Kd.R (Kd.int .i64) 3 wc w.heap.size (fun k_ => True) (.slice (some ad190) x11_2.length co71) x11_2) := ⟨by rw [← hq_]; exact (zR HO_11.out)⟩; have n1_ : Aside0 (wc.heap[gb176]? = some (.cells #[.int .i64 x177000_2, .int .i64 x177001_2, .int .i64 x177002_2, .slice none 0 0] 28 (0, 0))) := ⟨by rw [← hq_]; exact (zB BK176.out)⟩; have n2_ : Aside0 (wc.heap[gb177]? = some (.cells #[.int .i64 a0, .int .i64 a1, .int .i64 a2, .slice none 0 0] 28 (0, 0))) := ⟨by rw [← hq_]; exact (zB BK177.out)⟩; have n3_ : Aside0 (wc.heap[gb183]? = some (.cells #[.int .i64 ((rd_T33 l3 x12_2).f0), .int .i64 ((rd_T33 l3 x12_2).f1), .int .i64 ((rd_T33 l3 x12_2).f2), .bool ((rd_T33 l3 x12_2).f3)] 33 (0, 0))) := ⟨by rw [← hq_]; exact (zB BK183.out)⟩; have n4_ : Aside0 (Below w.heap.size w wc) := ⟨by rw [← hq_]; exact (zS HB.out)⟩; clear HO_11 BK176 BK177 BK183 HB hq_; have HO_11 := n0_; have BK176 := n1_; have BK177 := n2_; have BK183 := n3_; have HB := n4_; clear n0_ n1_ n2_ n3_ n4_; have hcz70_0 : wc.cell? ⟨gb183, 0, none⟩ = some (.int .i64 ((rd_T33 l3 x12_2).f0)) := b1 BK183 0; have hfz70_0 := blk_frozen BK183.out 0; have hcz70_1 : wc.cell? ⟨gb183, 1, none⟩ = some (.int .i64 ((rd_T33 l3 x12_2).f1)) := b1 BK183 1; have hfz70_1 := blk_frozen BK183.out 1; have hcz70_2 : wc.cell? ⟨gb183, 2, none⟩ = some (.int .i64 ((rd_T33 l3 x12_2).f2)) := b1 BK183 2; have hfz70_2 := blk_frozen BK183.out 2; have hcz70_3 : wc.cell? ⟨gb183, 3, none⟩ = some (.bool ((rd_T33 l3 x12_2).f3)) := b1 BK183 3; have hfz70_3 := blk_frozen BK183.out 3)); have p67 : 0 ≤ ((ji63) : Int) := of_decide_eq_true (by first | (with_reducible assumption) | assumption); have q67 : ((ji63) : Int) < ((x11_2.length : Int) : Int) := of_decide_eq_true (by first | (with_reducible assumption) | assumption); obtain ⟨go67, co67, eo67, gb67, gl67, cl67, HG67⟩ := Kd.R_form HO_11.out (by omega); (first | cases eo67 | (injection eo67 with ea_ en_ ec_; (first | subst ea_ | (injection ea_ with ea_; subst ea_)); subst ec_; clear en_)); have GB67 := Aside0.mk gb67; have GG67 := Aside0.mk HG67; clear gb67 gl67 HG67; (first | simp only [add_plain] at hx190_0 | skip); obtain ⟨hx67_0, hf67_0⟩ := Kd.R_celln 0 HO_11.out ((ji63) : Int) p67 q67; replace p67 := eq_true p67; replace q67 := eq_true q67; obtain ⟨hy72_, hz72_⟩ := Kd.R_celln 0 HO_11.out ((ji63) : Int) (of_decide_eq_true (by first | (with_reducible assumption) | assumption)) (of_decide_eq_true (by first | (with_reducible assumption) | assumption)); have HP72 := Kd.R_putg HO_11.out ((ji63) : Int) t191) | ((with_reducible refine gate_store (t := 3) (p := 89) rfl ?_); refine store_event (t := 3) (p := 89) (v := ?vo_w73) (w1 := (wc.setCell ⟨go67, ((ji63) : Int).toNat, none⟩ (.int .i64 t191))) ?hg ?ho ?hn ?hr ?_; (case ho => rfl); (case hg => rfl); (case hn => rfl); (case hr => first | (go_simp; done) | (go_simp; rfl)); intro w73 hw; have hg : wc.grownBy w73 (some go67) := (by rw [hw]; exact HP72.2); have hp_ : Kd.R (Kd.int .i64) 3 w73 w.heap.size (fun _ => True) (.slice (some ⟨go67, 0, none⟩) x11_2.length co71) y192 := (by rw [hw, Ny192.out]; exact HP72.1); clear HP72; replace BK176 := Aside0.mk (blk_grown (g := gb176) (o := .cells #[.int .i64 x177000_2, .int .i64 x177001_2, .int .i64 x177002_2, .slice none 0 0] 28 (0, 0)) (zB BK176.out) hg (Kd.R_ne HO_11.out BK176.out (by decide))); replace BK177 := Aside0.mk (blk_grown (g := gb177) (o := .cells #[.int .i64 a0, .int .i64 a1, .int .i64 a2, .slice none 0 0] 28 (0, 0)) (zB BK177.out) hg (Kd.R_ne HO_11.out BK177.out (by decide))); replace BK183 := Aside0.mk (blk_grown (g := gb183) (o := .cells #[.int .i64 ((rd_T33 l3 x12_2).f0), .int .i64 ((rd_T33 l3 x12_2).f1), .int .i64 ((rd_T33 l3 x12_2).f2), .bool ((rd_T33 l3 x12_2).f3)] 33 (0, 0)) (zB BK183.out) hg (Kd.R_ne HO_11.out BK183.out (by decide))); replace HO_11 := Aside0.mk (hp_); replace HB := Aside0.mk ((by rw [hw]; exact below_set (HB.out) GB67.out : Below w.heap.size w w73)); clear hg hw hp_))
                (first | go_roundg kj27 | ((try simp only [← hji21]); (try simp only [← hji63]); go_roundg kj27))
                case measure => have := HJ4.out; have := HK2.out; have := HJ27.out; omega
                case rel => exact ⟨(y192), (wrap64 (x12_2 + 1)), (x177000_2), (x177001_2), (x177002_2), (by first | rfl | (simp; done) | (simp [*]; done) | (rw [Int.tmod_eq_emod_of_nonneg (Int.natCast_nonneg _)]; done)), (by first | exact H' | (have h_ := H'; (try simp only [← hji21] at h_); (try simp only [← hji21]); (try simp only [← hji63] at h_); (try simp only [← hji63]); exact h_)), ⟨by have := HJ4.out; have := HK2.out; have := HJ27.out; omega⟩, ⟨zR HO_11.out⟩, ⟨zB BK176.out⟩, ⟨zB BK177.out⟩, ⟨zS HB.out⟩⟩
               ·rw [if_neg c65] at H; exact absurd H (by simp)
              ·rw [if_neg c64] at H; exact absurd H (by simp)
         ·rw [if_neg c27] at H; exact absurd H (by simp)
        ·rw [if_neg c26] at H; have c26b0 : decide (x12_2 < (l3.length : Int)) = false := decide_eq_false c26; clear c26; have H' := Aside0.mk H; clear H
         go_wp2
         go_loopg [16] k2 (fun kq v16 w' => ∃ (x16_3 : Int) (x178003_3 : List (S33)) (u178003 : Value), v16 = .int .i64 x16_3 ∧ Aside0 (spec_AutoMake.l1 kq a0 a1 x11_2 x16_3 a0 a1 a2 x178003_3 = some (r1, r2, r3, r4, r5)) ∧ Aside0 (kq ≤ k2) ∧ Aside0 (Kd.R (Kd.int .i64) 3 w' w.heap.size (fun _ => True) v180 x11_2) ∧ Aside0 (Kd.R k33 33 w' w.heap.size (fun _ => True) u178003 x178003_3) ∧ Aside0 (w'.heap[gb176]? = some (.cells #[.int .i64 x177000_2, .int .i64 x177001_2, .int .i64 x177002_2, (.slice none 0 0)] 28 (0, 0))) ∧ Aside0 (w'.heap[gb177]? = some (.cells #[.int .i64 a0, .int .i64 a1, .int .i64 a2, u178003] 28 (0, 0))) ∧ Aside0 (Below w.heap.size w w'))
         case atStart => exact ⟨(0), (([] : List (S33))), (.slice none 0 0), (by first | rfl | (simp; done) | (simp [*]; done) | (rw [Int.tmod_eq_emod_of_nonneg (Int.natCast_nonneg _)]; done)), H', ⟨Nat.le_refl _⟩, ⟨zR HO_11.out⟩, ⟨by first | exact Kd.R_nil _ _ _ _ _ | exact Kd.N_nil _ _ _ _ _ | exact Kd.V_nil _ _ _ _ _ | exact Kd.Q_nil _ _ _ _ _ | exact Kd.S_nil _ _ _ _ _⟩, ⟨zB BK176.out⟩, ⟨zB BK177.out⟩, ⟨zS HB.out⟩⟩
         case round =>
          clear H'
          try clear c1
          try clear p1
          try clear q1
          try clear hx1
          try clear c2
          try clear p2
          try clear c3
          try clear c4
          try clear c5
          try clear p5
          try clear q5
          try clear hx5
          try clear hf5
          try clear c6
          try clear p6
          try clear q6
          try clear hx6
          try clear hf6
          try clear c8
          try clear c11
          try clear c12
          try clear c15
          try clear c18
          try clear p18
          try clear q18
          try clear hx18
          try clear c19
          try clear p19
          try clear q19
          try clear hx19
          try clear c22
          try clear c22b0
          try clear c22b1
          try clear c23
          try clear c23b0
          try clear c23b1
          try clear c26
          try clear c26b0
          try clear c27
          try clear c27b0
          try clear c30
          try clear c31
          try clear c34
          try clear c36
          try clear c38
          try clear c39
          try clear c41
          try clear c42
          try clear c44
          try clear c45
          try clear c47
          try clear c48
          try clear c49
          try clear c51
          try clear c51b0
          try clear c53
          try clear c53b0
          try clear c54
          try clear c54b0
          try clear p56
          try clear q56
          try clear hx56
          try clear hf56
          try clear c57
          try clear c58
          try clear c64
          try clear c64b0
          try clear p64
          try clear c65
          try clear c65b0
          try clear p67
          try clear q67
          try clear hx67
          try clear hf67
          try clear c68
          try clear c69
          try clear hcz13_0
          try clear hcz13_1
          try clear hcz13_2
          try clear hcz13_3
          try clear hcz16_0
          try clear hcz16_1
          try clear hcz16_2
          try clear hcz16_3
          try clear hcz20_0
          try clear hcz20_1
          try clear hcz20_2
          try clear hcz20_3
          try clear hcz32_0
          try clear hcz32_1
          try clear hcz32_2
          try clear hcz32_3
          try clear hcz40_0
          try clear hcz40_1
          try clear hcz40_2
          try clear hcz40_3
          try clear hcz43_0
          try clear hcz43_1
          try clear hcz43_2
          try clear hcz43_3
          try clear hcz46_0
          try clear hcz46_1
          try clear hcz46_2
          try clear hcz46_3
          try clear hcz50_0
          try clear hcz50_1
          try clear hcz50_2
          try clear hcz50_3
          try clear hcz59_0
          try clear hcz59_1
          try clear hcz59_2
          try clear hcz59_3
          try clear hcz70_0
          try clear hcz70_1
          try clear hcz70_2
          try clear hcz70_3
          try clear hcz9_0
          try clear hcz9_1
          try clear hcz9_2
          try clear hcz9_3
          try clear hfz13_0
          try clear hfz13_1
          try clear hfz13_2
          try clear hfz13_3
          try clear hfz16_0
          try clear hfz16_1
          try clear hfz16_2
          try clear hfz16_3
          try clear hfz20_0
          try clear hfz20_1
          try clear hfz20_2
          try clear hfz20_3
          try clear hfz32_0
          try clear hfz32_1
          try clear hfz32_2
          try clear hfz32_3
          try clear hfz40_0
          try clear hfz40_1
          try clear hfz40_2
          try clear hfz40_3
          try clear hfz43_0
          try clear hfz43_1
          try clear hfz43_2
          try clear hfz43_3
          try clear hfz46_0
          try clear hfz46_1
          try clear hfz46_2
          try clear hfz46_3
          try clear hfz50_0
          try clear hfz50_1
          try clear hfz50_2
          try clear hfz50_3
          try clear hfz59_0
          try clear hfz59_1
          try clear hfz59_2
          try clear hfz59_3
          try clear hfz70_0
          try clear hfz70_1
          try clear hfz70_2
          try clear hfz70_3
          try clear hfz9_0
          try clear hfz9_1
          try clear hfz9_2
          try clear hfz9_3
          try clear hx182_0
          try clear hx182_1
          try clear hx182_2
          try clear hx182_3
          try clear hx187_0
          try clear hx190_0
          try clear hx56_0
          try clear hx67_0
          try clear p1
          try clear p18
          try clear p182
          try clear p187
          try clear p190
          try clear p2
          try clear p56
          try clear p6
          try clear p67
          try clear q1
          try clear q18
          try clear q182
          try clear q187
          try clear q190
          try clear q56
          try clear q67
          obtain ⟨x16_3, x178003_3, u178003, rfl, HA, HK3, HO_11, HO_178003, BK176, BK177, HB⟩ := hrel
          cases gk with
          | zero => exact absurd HA.out (by simp [spec_AutoMake.l1])
          | succ k3 =>
           have H := HA.out; clear HA; simp only [spec_AutoMake.l1] at H
           by_cases c74 : x16_3 < (x11_2.length : Int)
           ·rw [if_pos c74] at H; have c74b0 : decide (x16_3 < (x11_2.length : Int)) = true := decide_eq_true c74; clear c74
            by_cases c75 : 0 ≤ x16_3
            ·rw [if_pos c75] at H; have c75b0 : decide (0 ≤ x16_3) = true := decide_eq_true c75; clear c75
             by_cases c76 : (rd x11_2 x16_3) > 0
             ·rw [if_pos c76] at H; have c76b0 : decide (0 < (rd x11_2 x16_3)) = true := decide_eq_true c76; clear c76
              by_cases c77 : a1 = 0
              ·rw [if_pos c77] at H; exact absurd H (by simp)
              ·rw [if_neg c77] at H; have c77b0 : (a1 == 0) = false := beq_eq_false_iff_ne.mpr c77; have c77b1 : (a1 != 0) = true := bne_iff_ne.mpr c77
               by_cases c78 : a0 = 0
               ·rw [if_pos c78] at H; exact absurd H (by simp)
               ·rw [if_neg c78] at H; have c78b0 : (a0 == 0) = false := beq_eq_false_iff_ne.mpr c78; have c78b1 : (a0 != 0) = true := bne_iff_ne.mpr c78
                by_cases c79 : x178003_3.length < 4398046511104
                ·rw [if_pos c79] at H; have LMc79 := Aside0.mk c79; clear c79; obtain ⟨y195, hy195⟩ : ∃ y_ : List (S33), y_ = (x178003_3 ++ [(⟨wrap64 (Int.tdiv (wrap64 (Int.tdiv x16_3 a1)) a0), Int.tmod (wrap64 (Int.tdiv x16_3 a1)) a0, Int.tmod x16_3 a1, ((rd x11_2 x16_3) == 2)⟩ : S33)]) := ⟨_, rfl⟩
                 replace H : (spec_AutoMake.l1 k3 a0 a1 x11_2 (wrap64 (x16_3 + 1)) a0 a1 a2 y195) = some (r1, r2, r3, r4, r5) := by first | (rw [hy195]; with_reducible exact H) | (have H2_ := (Option.bind_some _ _).symm.trans H; rw [hy195]; with_reducible exact H2_) | (have H2_ := (Option.bind_some _ _).symm.trans H; with_reducible exact H2_) | with_reducible exact H | (rw [hy195]; exact H) | exact H
                 have Ny195 := Aside0.mk hy195; clear hy195; have H' := Aside0.mk H; clear H; obtain ⟨Ao80, co80, eo80⟩ := Kd.R_slice HO_11.out; subst eo80; have p193 : 0 ≤ (x16_3 : Int) := of_decide_eq_true (by first | (with_reducible assumption) | assumption); have q193 : x16_3 < (x11_2.length : Int) := of_decide_eq_true (by first | (with_reducible assumption) | assumption); obtain ⟨ad193, e193, hx193_0⟩ := Kd.at_int (Kd.R_reads' HO_11.out).2.2 x16_3 p193 q193
                 cases e193
                 replace p193 := eq_true p193; replace q193 := eq_true q193
                 try go_wp2
                 replace HO_11 := Aside0.mk (Kd.R_drew HO_11.out); replace HO_178003 := Aside0.mk (Kd.R_drew HO_178003.out); replace BK176 := Aside0.mk (blk_drew BK176.out); replace BK177 := Aside0.mk (blk_drew BK177.out); replace HB := Aside0.mk (below_drew1 HB.out); have p194 : 0 ≤ (x16_3 : Int) := of_decide_eq_true (by first | (with_reducible assumption) | assumption); have q194 : x16_3 < (x11_2.length : Int) := of_decide_eq_true (by first | (with_reducible assumption) | assumption); obtain ⟨ad194, e194, hx194_0⟩ := Kd.at_int (Kd.R_reads' HO_11.out).2.2 x16_3 p194 q194; obtain rfl : ad193 = ad194 := (by injection e194); replace p194 := eq_true p194; replace q194 := eq_true q194; refine start_ (n := 25) (S := fun w' => w'.cell? ⟨gb177, 0, none⟩ = some (.int .i64 a0) ∧ w'.cell? ⟨gb177, 1, none⟩ = some (.int .i64 a1) ∧ w'.cell? ⟨gb177, 2, none⟩ = some (.int .i64 a2) ∧ w'.cell? ⟨gb177, 3, none⟩ = some (u178003) ∧ w'.cell? (ad193.add (x16_3).toNat) = some (.int .i64 (rd x11_2 x16_3))) (ds := [22, 24]) bl0 (by kernel_rfl) rfl rfl ⟨b1 BK177 0, b1 BK177 1, b1 BK177 2, b1 BK177 3, hx194_0⟩ (fun hHeld => ?_); refine with_tabW spec_AutoMake.tab20 spec_AutoMake.bits20 (fun HT_ HW_ => ?_); generalize wr.drew = w81 at HO_11 HO_178003 BK176 BK177 HB hx194_0 hHeld ⊢
                 refine pu 0 (some 101) bl1 HT_ ?_ rfl rfl (.inl ⟨by rfl, ?_⟩) ?_ ?_ ?_; rotate_left; (intro w'; go_simp; with_reducible rfl); rotate_left; (simp only [Act.put, q5]; rfl)
                 refine pu 2 (some 103) bl2 HT_ ?_ rfl rfl (.inl ⟨by rfl, ?_⟩) ?_ ?_ ?_; rotate_left; (intro w'; go_simp; with_reducible rfl); rotate_left; (simp only [Act.put, q5]; rfl)
                 refine pu 3 (some 104) bl3 HT_ ?_ rfl rfl (.inl ⟨by rfl, ?_⟩) ?_ ?_ ?_; rotate_left; (intro w'; go_simp; with_reducible rfl); rotate_left; (simp only [Act.put, q5]; rfl)
                 refine pu 4 (some 105) bl4 HT_ ?_ rfl rfl (.inl ⟨by rfl, ?_⟩) ?_ ?_ ?_; rotate_left; (intro w'; go_simp; with_reducible rfl); rotate_left; (simp only [Act.put, q5]; rfl)
                 refine pu 5 (some 106) bl5 HT_ ?_ rfl rfl (.inl ⟨by rfl, ?_⟩) ?_ ?_ ?_; rotate_left; (intro w'; go_simp; with_reducible rfl); rotate_left; (simp only [Act.put, q5]; rfl)
                 refine pu 6 (some 107) bl6 HT_ ?_ rfl rfl (.inl ⟨by rfl, ?_⟩) ?_ ?_ ?_; rotate_left; (intro w'; go_simp; with_reducible rfl); rotate_left; (simp only [Act.put, q5]; rfl)
                 refine pu 7 (some 108) bl7 HT_ ?_ rfl rfl (.inl ⟨by rfl, ?_⟩) ?_ ?_ ?_; rotate_left; (intro w'; go_simp; with_reducible rfl); rotate_left; (simp only [Act.put, q5]; rfl)
                 refine pu 8 (some 109) bl8 HT_ ?_ rfl rfl (.inl ⟨by rfl, ?_⟩) ?_ ?_ ?_; rotate_left; (intro w'; go_simp; with_reducible rfl); rotate_left; (simp only [Act.put, q5]; rfl)
                 refine pu 9 (some 110) bl9 HT_ ?_ rfl rfl (.inl ⟨by rfl, ?_⟩) ?_ ?_ ?_; rotate_left; (intro w'; go_simp; with_reducible rfl); rotate_left; (simp only [Act.put, q5]; rfl)
                 refine pu 10 (some 111) bl10 HT_ ?_ rfl rfl (.inl ⟨by rfl, ?_⟩) ?_ ?_ ?_; rotate_left; (intro w'; go_simp; with_reducible rfl); rotate_left; (simp only [Act.put, q5]; rfl)
                 refine pu 11 (some 112) bl11 HT_ ?_ rfl rfl (.inl ⟨by rfl, ?_⟩) ?_ ?_ ?_; rotate_left; (intro w'; go_simp; with_reducible rfl); rotate_left; (simp only [Act.put, q5]; rfl)
                 refine pu 12 (some 113) bl12 HT_ ?_ rfl rfl (.inl ⟨by rfl, ?_⟩) ?_ ?_ ?_; rotate_left; (intro w'; go_simp; with_reducible rfl); rotate_left; (simp only [Act.put, q5]; rfl)
                 refine pu 13 (some 114) bl13 HT_ ?_ rfl rfl (.inl ⟨by rfl, ?_⟩) ?_ ?_ ?_; rotate_left; (intro w'; go_simp; with_reducible rfl); rotate_left; (simp only [Act.put, q5]; rfl)
                 refine pu 14 (some 115) bl14 HT_ ?_ rfl rfl (.inl ⟨by rfl, ?_⟩) ?_ ?_ ?_; rotate_left; (intro w'; go_simp; with_reducible rfl); rotate_left; (simp only [Act.put, q5]; rfl)
                 refine pu 15 (some 116) bl15 HT_ ?_ rfl rfl (.inl ⟨by rfl, ?_⟩) ?_ ?_ ?_; rotate_left; (intro w'; go_simp; with_reducible rfl); rotate_left; (simp only [Act.put, q5]; rfl)
                 refine pu 16 (some 117) bl16 HT_ ?_ rfl rfl (.inl ⟨by rfl, ?_⟩) ?_ ?_ ?_; rotate_left; (intro w'; go_simp; with_reducible rfl); rotate_left; (simp only [Act.put, q5]; rfl)
                 refine pu 17 (some 118) bl17 HT_ ?_ rfl rfl (.inl ⟨by rfl, ?_⟩) ?_ ?_ ?_; rotate_left; (intro w'; go_simp; with_reducible rfl); rotate_left; (simp only [Act.put, q5]; rfl)
                 refine take_ (i := 1) (N := some 102) (v := ?_) (a' := ?_) bl18 rfl rfl (take_ofW HT_.out HW_.out (by kernel_rfl)) (fun _ _ _ h => h) (Or.inl ⟨by rfl, ?_⟩) hHeld ?_ ?_; rotate_left
                 ·rintro w' ⟨s0, s1, s2, s3, s4⟩; go_simp; with_reducible rfl
                 rotate_left
                 ·simp only [Act.put, q5]; rfl
                 refine take_ (i := 18) (N := some 119) (v := ?_) (a' := ?_) bl19 rfl rfl (take_ofW HT_.out HW_.out (by kernel_rfl)) (fun _ _ _ h => h) (Or.inl ⟨by rfl, ?_⟩) hHeld ?_ ?_; rotate_left
                 ·rintro w' ⟨s0, s1, s2, s3, s4⟩; go_simp; with_reducible rfl
                 rotate_left
                 ·simp only [Act.put, q5]; rfl
                 refine pu 19 (some 120) bl20 HT_ ?_ rfl rfl (.inl ⟨by rfl, ?_⟩) ?_ ?_ ?_; rotate_left; (intro w'; go_simp; with_reducible rfl); rotate_left; (simp only [Act.put, q5]; rfl)
                 refine pu 20 (some 121) bl21 HT_ ?_ rfl rfl (.inl ⟨by rfl, ?_⟩) ?_ ?_ ?_; rotate_left; (intro w'; go_simp; with_reducible rfl); rotate_left; (simp only [Act.put, q5]; rfl)
                 refine one_ (i := 21) (N := some 122) bl22 rfl rfl (one_of HT_.out (by kernel_rfl)) (by decide) (fun K hK => ?_); refine value_ (w1 := ?_) (v := ?_) (by rfl) rfl ?_ ?_; rotate_left 2
                 ·go_simp
                  constructor
                  ·rfl
                  ·rfl
                 refine hK.out _ _ ⟨(blk_cell (blk_alloc BK177.out _) 0).trans rfl, (blk_cell (blk_alloc BK177.out _) 1).trans rfl, (blk_cell (blk_alloc BK177.out _) 2).trans rfl, (blk_cell (blk_alloc BK177.out _) 3).trans rfl, (World.cell?_alloc_lt _ _ _ (World.block_lt_of_cell? _ _ (hHeld.2.2.2.2))).trans (hHeld.2.2.2.2)⟩ (fun hHeld => ?_); clear hK K; refine norm_ (a' := ?_) ?_ ?_; rotate_left
                 ·show Act.put _ (some 122) _ = _; simp only [Act.put, q5]; rfl
                 refine last_ (i := 22) (N := some 123) bl23 rfl rfl (one_of HT_.out (by kernel_rfl)) (by decide) (fun K hK => ?_); refine Kd.R_append_step k33 (w0 := w) w.heap.size (by rfl) (.tmp 102) (.tmp 122) 24 33 (.agg #[(.int .i64 0), (.int .i64 0), (.int .i64 0), (.bool false)]) 32 rfl Try.underlying24 info33 rfl (by decide) (by omega) u178003 x178003_3 (⟨wrap64 (Int.tdiv (wrap64 (Int.tdiv x16_3 a1)) a0), Int.tmod (wrap64 (Int.tdiv x16_3 a1)) a0, Int.tmod x16_3 a1, ((rd x11_2 x16_3) == 2)⟩ : S33) [.int .i64 (wrap64 (Int.tdiv (wrap64 (Int.tdiv x16_3 a1)) a0)), .int .i64 (Int.tmod (wrap64 (Int.tdiv x16_3 a1)) a0), .int .i64 (Int.tmod x16_3 a1), .bool ((rd x11_2 x16_3) == 2)] (fun _ => True) (fun _ => False) rfl rfl ?aP (fun _ hk => hk.elim) ?aF ?aO ?aB ?aS ?aL ?_
                 (case aP => exact k33_mkM _ _ _ (⟨wrap64 (Int.tdiv (wrap64 (Int.tdiv x16_3 a1)) a0), Int.tmod (wrap64 (Int.tdiv x16_3 a1)) a0, Int.tmod x16_3 a1, ((rd x11_2 x16_3) == 2)⟩ : S33))
                 (case aB => exact (zS HB.out))
                 (case aF => exact (fun _ _ => trivial))
                 (case aO => exact (zR HO_178003.out))
                 (case aS => exact (below_size (zS HB.out)))
                 (case aL => have := LMc79.out; omega)
                 intro v196 w82 ho hb hg hat; rw [← Ny195.out] at ho; have n0_ := Aside0.mk (Kd.R_over' (zR HO_11.out) (Kd.R_typed (zR HO_178003.out)) (by decide) hg); have n1_ := Aside0.mk (blk_grown (g := gb176) (o := .cells #[.int .i64 x177000_2, .int .i64 x177001_2, .int .i64 x177002_2, .slice none 0 0] 28 (0, 0)) (zB BK176.out) hg (Kd.R_ne HO_178003.out BK176.out (by decide))); have n2_ := Aside0.mk (blk_grown (g := gb177) (o := .cells #[.int .i64 a0, .int .i64 a1, .int .i64 a2, u178003] 28 (0, 0)) (zB BK177.out) hg (Kd.R_ne HO_178003.out BK177.out (by decide))); have n3_ := Aside0.mk (hb); have n4_ := Aside0.mk (ho); clear HO_11; clear BK176; clear BK177; clear HB; clear HO_178003; have HO_11 := n0_; have BK176 := n1_; have BK177 := n2_; have HB := n3_; have HO197 := n4_; clear n0_ n1_ n2_ n3_ n4_; clear ho hb hg hat; obtain ⟨Ao83, co83, eo83⟩ := Kd.R_slice HO197.out
                 (first | subst eo83 | (injection eo83 with f1_ f2_ f3_; have f4_ := f1_.symm; have f5_ := f3_.symm; clear f1_ f2_ f3_; subst f4_; subst f5_))
                 refine hK.out _ _ ?_; clear hK K; refine norm_ (a' := ?_) ?_ ?_; rotate_left
                 ·show Act.put _ (some 123) _ = _; simp only [Act.put, q5]; rfl
                 refine pu 23 (some 124) bl24 HT_ ?_ rfl rfl (.inl ⟨by rfl, ?_⟩) ?_ ?_ ?_; rotate_left; (intro w'; go_simp; with_reducible rfl); rotate_left; (simp only [Act.put, q5]; rfl)
                 refine last_ (i := 24) (N := none) bl25 rfl rfl (one_of HT_.out (by kernel_rfl)) (by decide) (fun K hK => ?_); have hs84 : w82.cell? ⟨gb177, 3, none⟩ = some (u178003) := b1 BK177 3; have hfs84 := blk_frozen BK177.out 3; have hns84_0 := NB176_177.out; have hms84_0 := NB177_176.out; refine skip_ (w1 := ?_) (by rfl) rfl ?_ ?_; rotate_left
                 ·go_simp; rfl
                 refine hK.out _ _ ?_; clear hK K; refine done_ (done_of HT_.out (by kernel_rfl)) ?_
                 try go_wp2
                 (first | go_roundg k3 | ((try simp only [← hji21]); go_roundg k3))
                 case measure => have := HJ4.out; have := HK2.out; have := HK3.out; omega
                 case rel => exact ⟨(wrap64 (x16_3 + 1)), (y195), (.slice Ao83 y195.length co83), (by first | rfl | (simp; done) | (simp [*]; done) | (rw [Int.tmod_eq_emod_of_nonneg (Int.natCast_nonneg _)]; done)), (by first | exact H' | (have h_ := H'; (try simp only [← hji21] at h_); (try simp only [← hji21]); exact h_)), ⟨by have := HJ4.out; have := HK2.out; have := HK3.out; omega⟩, ⟨by (with_reducible repeat (first | apply Kd.R_alloc | apply Kd.R_drewN | apply Kd.R_drew)); exact Kd.R_mono (Kd.R_far (p := ⟨gb177, 3, none⟩) (Kd.R_types HO_11.out BK177.out (by decide)) (fun _ hk => hk.2) (.slice Ao83 y195.length co83)) (fun _ hk => trivial)⟩, ⟨by (with_reducible repeat (first | apply Kd.R_alloc | apply Kd.R_drewN | apply Kd.R_drew)); exact Kd.R_mono (Kd.R_far (p := ⟨gb177, 3, none⟩) (Kd.R_types HO197.out BK177.out (by decide)) (fun _ hk => hk.2) (.slice Ao83 y195.length co83)) (fun _ hk => trivial)⟩, ⟨zB BK176.out⟩, ⟨by (with_reducible repeat (first | refine blk_drewN ?_ _ | refine blk_drew ?_ | refine blk_alloc ?_ _)); refine blk_put (cs := #[.int .i64 a0, .int .i64 a1, .int .i64 a2, u178003]) ?_ 3 _ rfl; (with_reducible repeat (first | refine blk_drewN ?_ _ | refine blk_drew ?_ | refine blk_alloc ?_ _)); exact BK177.out⟩, ⟨zS HB.out⟩⟩
                ·rw [if_neg c79] at H; exact absurd H (by simp)
             ·rw [if_neg c76] at H; have c76b0 : decide (0 < (rd x11_2 x16_3)) = false := decide_eq_false c76; clear c76; have H' := Aside0.mk H; clear H; obtain ⟨Ao85, co85, eo85⟩ := Kd.R_slice HO_11.out; subst eo85; have p193 : 0 ≤ (x16_3 : Int) := of_decide_eq_true (by first | (with_reducible assumption) | assumption); have q193 : x16_3 < (x11_2.length : Int) := of_decide_eq_true (by first | (with_reducible assumption) | assumption); obtain ⟨ad193, e193, hx193_0⟩ := Kd.at_int (Kd.R_reads' HO_11.out).2.2 x16_3 p193 q193
              cases e193
              replace p193 := eq_true p193; replace q193 := eq_true q193
              go_wp2
              (first | go_roundg k3 | ((try simp only [← hji21]); go_roundg k3))
              case measure => have := HJ4.out; have := HK2.out; have := HK3.out; omega
              case rel => exact ⟨(wrap64 (x16_3 + 1)), (x178003_3), (u178003), (by first | rfl | (simp; done) | (simp [*]; done) | (rw [Int.tmod_eq_emod_of_nonneg (Int.natCast_nonneg _)]; done)), (by first | exact H' | (have h_ := H'; (try simp only [← hji21] at h_); (try simp only [← hji21]); exact h_)), ⟨by have := HJ4.out; have := HK2.out; have := HK3.out; omega⟩, ⟨zR HO_11.out⟩, ⟨zR HO_178003.out⟩, ⟨zB BK176.out⟩, ⟨zB BK177.out⟩, ⟨zS HB.out⟩⟩
            ·rw [if_neg c75] at H; exact absurd H (by simp)
           ·rw [if_neg c74] at H; have c74b0 : decide (x16_3 < (x11_2.length : Int)) = false := decide_eq_false c74; clear c74; simp only [Option.some.injEq, Prod.mk.injEq] at H; obtain ⟨rfl, rfl, rfl, rfl, rfl⟩ := H; obtain ⟨Ao86, co86, eo86⟩ := Kd.R_slice HO_11.out; subst eo86; have hnb87 := NB177_176.out; have hnc87 := NB176_177.out; have hcz88_0 : wr.cell? ⟨gb177, 0, none⟩ = some (.int .i64 a0) := b1 BK177 0; have hcz88_1 : wr.cell? ⟨gb177, 1, none⟩ = some (.int .i64 a1) := b1 BK177 1; have hcz88_2 : wr.cell? ⟨gb177, 2, none⟩ = some (.int .i64 a2) := b1 BK177 2; have hcz88_3 : wr.cell? ⟨gb177, 3, none⟩ = some (u178003) := b1 BK177 3; have hfz88_0 := blk_frozen BK177.out 0; have hfz88_1 := blk_frozen BK177.out 1; have hfz88_2 := blk_frozen BK177.out 2; have hfz88_3 := blk_frozen BK177.out 3; have hcz89_0 : wr.cell? ⟨gb176, 0, none⟩ = some (.int .i64 x177000_2) := b1 BK176 0; have hcz89_1 : wr.cell? ⟨gb176, 1, none⟩ = some (.int .i64 x177001_2) := b1 BK176 1; have hcz89_2 : wr.cell? ⟨gb176, 2, none⟩ = some (.int .i64 x177002_2) := b1 BK176 2; have hcz89_3 : wr.cell? ⟨gb176, 3, none⟩ = some (.slice none 0 0) := b1 BK176 3; have hfz89_0 := blk_frozen BK176.out 0; have hfz89_1 := blk_frozen BK176.out 1; have hfz89_2 := blk_frozen BK176.out 2; have hfz89_3 := blk_frozen BK176.out 3; obtain ⟨Ao90, co90, eo90⟩ := Kd.R_slice HO_178003.out; subst eo90
            go_wp2
            refine bodyPost_ret (results_ct rfl _ _ gb176 28 #[.int .i64 a0, .int .i64 a1, .int .i64 a2, .slice Ao90 x178003_3.length co90] (0, 0) _ rfl (xP4 BK176.out) Try.underlying28 rfl (by kernel_rfl)) rfl ?_; exact ⟨_, by first | rfl | (simp [errW_none, errW_some] <;> rfl) | (simp only [← hji21]; first | rfl | (simp [errW_none, errW_some] <;> rfl)) | (simp [*, errW_none, errW_some] <;> rfl), by (with_reducible repeat (first | apply Kd.R_alloc | apply Kd.R_drewN | apply Kd.R_drew)); exact Kd.R_mono (Kd.R_far (p := ⟨gb176, 3, none⟩) (Kd.R_far (p := ⟨gb176, 2, none⟩) (Kd.R_far (p := ⟨gb176, 1, none⟩) (Kd.R_far (p := ⟨gb176, 0, none⟩) (Kd.R_types HO_178003.out BK176.out (by decide)) (fun _ hk => hk.2) (.int .i64 a0)) (fun _ hk => hk.2) (.int .i64 a1)) (fun _ hk => hk.2) (.int .i64 a2)) (fun _ hk => hk.2) (.slice Ao90 x178003_3.length co90)) (fun _ hk => trivial), by repeat (first | (with_reducible first | exact HB.out | apply below_alloc | apply pw_below_drewN | apply below_drew1 | refine below_set ?_ GE176.out | refine below_set ?_ GE177.out) | exact HB.out)⟩
     ·rw [if_neg c23] at H; exact absurd H (by simp)
    ·rw [if_neg c22] at H; exact absurd H (by simp)

/-! ### laws_szEdgeS: function 11 -/
def laws_szEdgeS.f (l0 : List (S57)) (a1 : Int) : Option (Int) := if (wrap64 (a1 - (l0.length : Int))) < 0 then (some (-1)) else (some (wrap64 (a1 - (l0.length : Int))))
set_option maxHeartbeats 8000000 in
set_option maxRecDepth 100000 in
theorem laws_szEdgeS.calls (A0 : Option Addr) (c0 : Nat) (l0 : List (S57)) (a1 : Int) (r : Int) (w : World) (hr0 : Kd.C k57 w A0 l0.length l0) (hc0 : l0.length ≤ c0) (h : laws_szEdgeS.f l0 a1 = some r) :
    Calls Try.prog 11 #[.slice A0 l0.length c0, .int .i64 a1] w fun e w' => e = .returned (.int .i64 r) ∧ Drawn0 w w' := by
  have HR0 := Aside0.mk hr0
  have HC0 := Aside0.mk hc0
  clear hr0 hc0
  have H : (if (wrap64 (a1 - (l0.length : Int))) < 0 then (some (-1)) else (some (wrap64 (a1 - (l0.length : Int))))) = some r := h
  clear h
  by_cases c3 : (wrap64 (a1 - (l0.length : Int))) < 0
  · rw [if_pos c3] at H
    have c3b0 : decide ((wrap64 (a1 - (l0.length : Int))) < 0) = true := decide_eq_true c3
    clear c3
    obtain rfl := Option.some.inj H
    go_enter Try.func11, Try.ntmps11
    go_wp2
    go_ret
    exact ⟨by first | rfl | (simp; done) | (simp [*]; done), by repeat (first | exact Drawn0.refl _ | apply Drawn0.step)⟩
  · rw [if_neg c3] at H
    have c3b0 : decide ((wrap64 (a1 - (l0.length : Int))) < 0) = false := decide_eq_false c3
    clear c3
    obtain rfl := Option.some.inj H
    go_enter Try.func11, Try.ntmps11
    go_wp2
    go_ret
    exact ⟨by first | rfl | (simp; done) | (simp [*]; done), by repeat (first | exact Drawn0.refl _ | apply Drawn0.step)⟩


/-! ### laws_toEdge: function 32 -/
def laws_toEdge.f (a0_0 : Int) (a0_1 : Int) (a0_2 : Int) (a0_3 : Bool) : Option (Int × Int × Int × Bool) := some (a0_0, a0_1, a0_2, a0_3)
open Go.Proofs.Ytigmokdcanebeaa.Short2 in
set_option maxHeartbeats 8000000 in
set_option maxRecDepth 100000 in
theorem laws_toEdge.calls (a0_0 : Int) (a0_1 : Int) (a0_2 : Int) (a0_3 : Bool) (r1 : Int) (r2 : Int) (r3 : Int) (r4 : Bool) (w : World) (h : laws_toEdge.f a0_0 a0_1 a0_2 a0_3 = some (r1, r2, r3, r4)) :
  Calls Try.prog 32 #[.agg #[.int .i64 a0_0, .int .i64 a0_1, .int .i64 a0_2, .bool a0_3]] w fun e w' => e = .returned (.agg #[.int .i64 r1, .int .i64 r2, .int .i64 r3, .bool r4]) ∧ Below w.heap.size w w' := by
 have hu57 := Try.underlying57; have hu33 := Try.underlying33; have HB := Aside0.mk (Below.refl w.heap.size w); have H : (some (a0_0, a0_1, a0_2, a0_3)) = some (r1, r2, r3, r4) := h; clear h; simp only [Option.some.injEq, Prod.mk.injEq] at H; obtain ⟨rfl, rfl, rfl, rfl⟩ := H
 go_enter Try.func32, Try.ntmps32
 go_wp2_with (first | ((with_reducible refine gate_dst (N := 1) rfl ?_); refine box_event ?hg (N := 1) ?hd (cs := #[.int .i64 a0_0, .int .i64 a0_1, .int .i64 a0_2, .bool a0_3]) (t := 57) ?hr ?_; (case hd => rfl); (case hg => rfl); (case hr => first | (go_simp; done) | (go_simp; rfl)); intro gb198 hg w2 hbox hb; have BK198 := Aside0.mk (hbox); have GW198 := xG HB hg; have GE198 := xG HB hg; replace HB := xS HB hb; clear hb hbox hg) | ((with_reducible refine gate_dst (N := 2) rfl ?_); refine box_event ?hg (N := 2) ?hd (cs := #[.int .i64 0, .int .i64 0, .int .i64 0, .bool false]) (t := 33) ?hr ?_; (case hd => rfl); (case hg => rfl); (case hr => first | (go_simp; done) | (go_simp; rfl)); intro gb199 hg w3 hbox hb; have BK199 := Aside0.mk (hbox); have GW199 := xG HB hg; have GE199 := xG HB hg; replace HB := xS HB hb; have NB198_199 := xN BK198 hg; have NB199_198 := xM BK198 hg; replace BK198 := xB BK198 hb; clear hb hbox hg) | ((with_reducible refine gate_dst (N := 3) rfl ?_); refine box_event ?hg (N := 3) ?hd (cs := #[.int .i64 0, .int .i64 0, .int .i64 0, .bool false]) (t := 33) ?hr ?_; (case hd => rfl); (case hg => rfl); (case hr => first | (go_simp; done) | (go_simp; rfl)); intro gb200 hg w4 hbox hb; have BK200 := Aside0.mk (hbox); have GW200 := xG HB hg; have GE200 := xG HB hg; replace HB := xS HB hb; have NB198_200 := xN BK198 hg; have NB200_198 := xM BK198 hg; replace BK198 := xB BK198 hb; have NB199_200 := xN BK199 hg; have NB200_199 := xM BK199 hg; replace BK199 := xB BK199 hb; clear hb hbox hg; have hnb5 := NB198_199.out; have hnc5 := NB199_198.out; have hnb6 := NB198_200.out; have hnc6 := NB200_198.out; have hcz7_0 : w4.cell? ⟨gb198, 0, none⟩ = some (.int .i64 a0_0) := b1 BK198 0; have hcz7_1 : w4.cell? ⟨gb198, 1, none⟩ = some (.int .i64 a0_1) := b1 BK198 1; have hcz7_2 : w4.cell? ⟨gb198, 2, none⟩ = some (.int .i64 a0_2) := b1 BK198 2; have hcz7_3 : w4.cell? ⟨gb198, 3, none⟩ = some (.bool a0_3) := b1 BK198 3; have hfz7_0 := blk_frozen BK198.out 0; have hfz7_1 := blk_frozen BK198.out 1; have hfz7_2 := blk_frozen BK198.out 2; have hfz7_3 := blk_frozen BK198.out 3; have hnb8 := NB200_199.out; have hnc8 := NB199_200.out; have hcz9_0 : w4.cell? ⟨gb200, 0, none⟩ = some (.int .i64 0) := b1 BK200 0; have hcz9_1 : w4.cell? ⟨gb200, 1, none⟩ = some (.int .i64 0) := b1 BK200 1; have hcz9_2 : w4.cell? ⟨gb200, 2, none⟩ = some (.int .i64 0) := b1 BK200 2; have hcz9_3 : w4.cell? ⟨gb200, 3, none⟩ = some (.bool false) := b1 BK200 3; have hfz9_0 := blk_frozen BK200.out 0; have hfz9_1 := blk_frozen BK200.out 1; have hfz9_2 := blk_frozen BK200.out 2; have hfz9_3 := blk_frozen BK200.out 3; have hcz10_0 : w4.cell? ⟨gb199, 0, none⟩ = some (.int .i64 0) := b1 BK199 0; have hcz10_1 : w4.cell? ⟨gb199, 1, none⟩ = some (.int .i64 0) := b1 BK199 1; have hcz10_2 : w4.cell? ⟨gb199, 2, none⟩ = some (.int .i64 0) := b1 BK199 2; have hcz10_3 : w4.cell? ⟨gb199, 3, none⟩ = some (.bool false) := b1 BK199 3; have hfz10_0 := blk_frozen BK199.out 0; have hfz10_1 := blk_frozen BK199.out 1; have hfz10_2 := blk_frozen BK199.out 2; have hfz10_3 := blk_frozen BK199.out 3))
 refine bodyPost_ret (results_cell_row rfl _ _ gb199 33 #[.int .i64 a0_0, .int .i64 a0_1, .int .i64 a0_2, .bool a0_3] (0, 0) _ rfl (by (with_reducible repeat (first | refine blk_drewN ?_ _ | refine blk_drew ?_ | refine blk_alloc ?_ _)); refine blk_put (cs := #[.int .i64 a0_0, .int .i64 a0_1, .int .i64 a0_2, .bool false]) ?_ 3 _ rfl; (with_reducible repeat (first | refine blk_drewN ?_ _ | refine blk_drew ?_ | refine blk_alloc ?_ _)); refine blk_put (cs := #[.int .i64 a0_0, .int .i64 a0_1, .int .i64 0, .bool false]) ?_ 2 _ rfl; (with_reducible repeat (first | refine blk_drewN ?_ _ | refine blk_drew ?_ | refine blk_alloc ?_ _)); refine blk_put (cs := #[.int .i64 a0_0, .int .i64 0, .int .i64 0, .bool false]) ?_ 1 _ rfl; (with_reducible repeat (first | refine blk_drewN ?_ _ | refine blk_drew ?_ | refine blk_alloc ?_ _)); refine blk_put (cs := #[.int .i64 0, .int .i64 0, .int .i64 0, .bool false]) ?_ 0 _ rfl; (with_reducible repeat (first | refine blk_drewN ?_ _ | refine blk_drew ?_ | refine blk_alloc ?_ _)); refine blk_far ?_ NB199_200.out _; (with_reducible repeat (first | refine blk_drewN ?_ _ | refine blk_drew ?_ | refine blk_alloc ?_ _)); refine blk_far ?_ NB199_200.out _; (with_reducible repeat (first | refine blk_drewN ?_ _ | refine blk_drew ?_ | refine blk_alloc ?_ _)); refine blk_far ?_ NB199_200.out _; (with_reducible repeat (first | refine blk_drewN ?_ _ | refine blk_drew ?_ | refine blk_alloc ?_ _)); refine blk_far ?_ NB199_200.out _; (with_reducible repeat (first | refine blk_drewN ?_ _ | refine blk_drew ?_ | refine blk_alloc ?_ _)); exact BK199.out) Try.underlying33 rfl (by kernel_rfl)) rfl ?_; exact ⟨by first | rfl | (simp [errW_none, errW_some] <;> rfl) | (simp [*, errW_none, errW_some] <;> rfl), by repeat (first | (with_reducible first | exact HB.out | apply below_alloc | apply pw_below_drewN | apply below_drew1 | refine below_set ?_ GE198.out | refine below_set ?_ GE199.out | refine below_set ?_ GE200.out) | exact HB.out)⟩

end Go.Proofs.Ytigmokdcanebeaa.MFnExactAutoMake
