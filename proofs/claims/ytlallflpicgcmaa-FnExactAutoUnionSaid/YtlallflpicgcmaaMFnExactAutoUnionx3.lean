-- Written by a program of this session, out of Lean's print of the translation. Not trusted: Lean checks it.
import Derived.Test.YtlallflpicgcmaaMFnExactAutoUnionx0
import Derived.Test.YtlallflpicgcmaaMFnExactAutoUnionx2
namespace Go.Proofs.Ytlallflpicgcmaa.MFnExactAutoUnion
open Go.RowKit Go.Proofs.YtlallflpicgcmaaW.PrintWords Go.Proofs.YtlallflpicgcmaaW.PrintLast Go.Proofs.YtlallflpicgcmaaW.PrintMore
attribute [local go_sem] max2_int min2_int max_two min_two max_three min_three max_four min_four   -- for this text's walks alone
set_option linter.unusedVariables false
set_option linter.unusedSimpArgs false

section
open Go.Proofs.Ytlallflpicgcmaa.Short2.T
abbrev spec_AutoUnion.bl0 : Array Bool := #[f, f, f, f, f, f, f, f, f, f, f, f, f, f, f, f, f, f]
abbrev spec_AutoUnion.bl1 : Array Bool := #[t, f, f, f, f, f, f, f, f, f, f, f, f, f, f, f, f, f]
abbrev spec_AutoUnion.bl2 : Array Bool := #[t, f, t, f, f, f, f, f, f, f, f, f, f, f, f, f, f, f]
abbrev spec_AutoUnion.bl3 : Array Bool := #[t, f, t, f, t, f, f, f, f, f, f, f, f, f, f, f, f, f]
abbrev spec_AutoUnion.bl4 : Array Bool := #[t, f, t, f, t, f, f, t, f, f, f, f, f, f, f, f, f, f]
abbrev spec_AutoUnion.bl5 : Array Bool := #[t, f, t, f, t, f, f, t, f, t, f, f, f, f, f, f, f, f]
abbrev spec_AutoUnion.bl6 : Array Bool := #[t, f, t, f, t, f, f, t, f, t, f, t, f, f, f, f, f, f]
abbrev spec_AutoUnion.bl7 : Array Bool := #[t, t, t, f, t, f, f, t, f, t, f, t, f, f, f, f, f, f]
abbrev spec_AutoUnion.bl8 : Array Bool := #[t, t, t, t, t, f, f, t, f, t, f, t, f, f, f, f, f, f]
abbrev spec_AutoUnion.bl9 : Array Bool := #[t, t, t, t, t, t, f, t, f, t, f, t, f, f, f, f, f, f]
abbrev spec_AutoUnion.bl10 : Array Bool := #[t, t, t, t, t, t, t, t, f, t, f, t, f, f, f, f, f, f]
abbrev spec_AutoUnion.bl11 : Array Bool := #[t, t, t, t, t, t, t, t, t, t, f, t, f, f, f, f, f, f]
abbrev spec_AutoUnion.bl12 : Array Bool := #[t, t, t, t, t, t, t, t, t, t, t, t, f, f, f, f, f, f]
abbrev spec_AutoUnion.bl13 : Array Bool := #[t, t, t, t, t, t, t, t, t, t, t, t, t, f, f, f, f, f]
abbrev spec_AutoUnion.bl14 : Array Bool := #[t, t, t, t, t, t, t, t, t, t, t, t, t, t, f, f, f, f]
abbrev spec_AutoUnion.bl15 : Array Bool := #[t, t, t, t, t, t, t, t, t, t, t, t, t, t, t, f, f, f]
abbrev spec_AutoUnion.bl16 : Array Bool := #[t, t, t, t, t, t, t, t, t, t, t, t, t, t, t, t, f, f]
abbrev spec_AutoUnion.bl17 : Array Bool := #[t, t, t, t, t, t, t, t, t, t, t, t, t, t, t, t, t, f]
abbrev spec_AutoUnion.bl18 : Array Bool := #[t, t, t, t, t, t, t, t, t, t, t, t, t, t, t, t, t, t]
end
/-! ### spec_AutoUnion: function 34 -/
mutual
def spec_AutoUnion.j0 : Nat → Bool → Int → Int → Int → List (S68) → Int → Int → Int → List (S68) → Option (Int × Int × Int × (List (S68)) × Bool)
 | 0, _, _, _, _, _, _, _, _, _ => none
 | k + 1, x41, x160000, x160001, x160002, x160003, x161000, x161001, x161002, x161003 => if x41 = true then (some (0, 0, 0, ([] : List (S68)), false)) else (if 0 ≤ x160001 then ((some (([] : List (S68)) : List (S68))).bind fun y165 => (if y165.length + x160003.length < 4398046511104 then (spec_AutoUnion.l0 k 0 x160000 x160001 x160002 x160003 x161000 x161001 x161002 x161003 x160000 (wrap64 (x160001 + x161001)) (Go.bits .or .i64 x160002 (shl .i64 x161002 x160001)) (y165 ++ x160003)) else (none))) else (none))
def spec_AutoUnion.l0 : Nat → Int → Int → Int → Int → List (S68) → Int → Int → Int → List (S68) → Int → Int → Int → List (S68) → Option (Int × Int × Int × (List (S68)) × Bool)
 | 0, _, _, _, _, _, _, _, _, _, _, _, _, _ => none
 | k + 1, x7, x160000, x160001, x160002, x160003, x161000, x161001, x161002, x161003, x165000, x165001, x165002, x165003 => if x7 < (x161003.length : Int) then (if 0 ≤ x7 then (if x165003.length < 4398046511104 then (spec_AutoUnion.l0 k (wrap64 (x7 + 1)) x160000 x160001 x160002 x160003 x161000 x161001 x161002 x161003 x165000 x165001 x165002 (x165003 ++ [(⟨wrap64 (((rd_T68 x161003 x7).f0) + x160001), (rd_T68 x161003 x7).f1, wrap64 (((rd_T68 x161003 x7).f2) + x160001), (rd_T68 x161003 x7).f3⟩ : S68)])) else (none)) else (none)) else (some (x165000, x165001, x165002, x165003, true))
end
def spec_AutoUnion.f (k : Nat) (a0_0 : Int) (a0_1 : Int) (a0_2 : Int) (l0_3 : List (S68)) (a1_0 : Int) (a1_1 : Int) (a1_2 : Int) (l1_3 : List (S68)) : Option (Int × Int × Int × (List (S68)) × Bool) := (spec_AutoOk.f k a0_0 a0_1 a0_2 l0_3).bind fun t162 => (if t162 = true then ((spec_AutoOk.f k a1_0 a1_1 a1_2 l1_3).bind fun t163 => (if t163 = true then (if a0_0 = a1_0 then (if (wrap64 (a0_1 + a1_1)) > 31 then (spec_AutoUnion.j0 k true a0_0 a0_1 a0_2 l0_3 a1_0 a1_1 a1_2 l1_3) else (spec_AutoUnion.j0 k (decide ((wrap64 ((l0_3.length : Int) + (l1_3.length : Int))) > 2000)) a0_0 a0_1 a0_2 l0_3 a1_0 a1_1 a1_2 l1_3)) else (spec_AutoUnion.j0 k true a0_0 a0_1 a0_2 l0_3 a1_0 a1_1 a1_2 l1_3)) else (spec_AutoUnion.j0 k true a0_0 a0_1 a0_2 l0_3 a1_0 a1_1 a1_2 l1_3))) else (spec_AutoUnion.j0 k true a0_0 a0_1 a0_2 l0_3 a1_0 a1_1 a1_2 l1_3))
theorem spec_AutoUnion.mono_l : ∀ k, (∀ y0 y1 y2 y3 y4 y5 y6 y7 y8, LeO (spec_AutoUnion.j0 k y0 y1 y2 y3 y4 y5 y6 y7 y8) (spec_AutoUnion.j0 (k + 1) y0 y1 y2 y3 y4 y5 y6 y7 y8)) ∧ (∀ y0 y1 y2 y3 y4 y5 y6 y7 y8 y9 y10 y11 y12, LeO (spec_AutoUnion.l0 k y0 y1 y2 y3 y4 y5 y6 y7 y8 y9 y10 y11 y12) (spec_AutoUnion.l0 (k + 1) y0 y1 y2 y3 y4 y5 y6 y7 y8 y9 y10 y11 y12))
 | 0 => ⟨fun _ _ _ _ _ _ _ _ _ r h => by simp [spec_AutoUnion.j0] at h, fun _ _ _ _ _ _ _ _ _ _ _ _ _ r h => by simp [spec_AutoUnion.l0] at h⟩
 | k + 1 => by
  obtain ⟨ih0, ih1⟩ := spec_AutoUnion.mono_l k
  refine ⟨?_, ?_⟩
  ·intro y0 y1 y2 y3 y4 y5 y6 y7 y8
   unfold spec_AutoUnion.j0
   repeat' first
   | (with_reducible exact ih0 _ _ _ _ _ _ _ _ _)
   | (with_reducible exact ih1 _ _ _ _ _ _ _ _ _ _ _ _ _)
   | (with_reducible exact spec_AutoOk.mono _ _ _ _ _)
   | (with_reducible exact LeO.refl _)
   | (with_reducible exact LeO.none _)
   | (with_reducible refine LeO.ite ?_ ?_)
   | (with_reducible refine LeO.bind ?_ (fun _ => ?_))
   | exact ih0 _ _ _ _ _ _ _ _ _
   | exact ih1 _ _ _ _ _ _ _ _ _ _ _ _ _
   | exact spec_AutoOk.mono _ _ _ _ _
   | exact LeO.none _
   | refine LeO.ite ?_ ?_
   | refine LeO.bind ?_ (fun _ => ?_)
  ·intro y0 y1 y2 y3 y4 y5 y6 y7 y8 y9 y10 y11 y12
   unfold spec_AutoUnion.l0
   repeat' first
   | (with_reducible exact ih0 _ _ _ _ _ _ _ _ _)
   | (with_reducible exact ih1 _ _ _ _ _ _ _ _ _ _ _ _ _)
   | (with_reducible exact spec_AutoOk.mono _ _ _ _ _)
   | (with_reducible exact LeO.refl _)
   | (with_reducible exact LeO.none _)
   | (with_reducible refine LeO.ite ?_ ?_)
   | (with_reducible refine LeO.bind ?_ (fun _ => ?_))
   | exact ih0 _ _ _ _ _ _ _ _ _
   | exact ih1 _ _ _ _ _ _ _ _ _ _ _ _ _
   | exact spec_AutoOk.mono _ _ _ _ _
   | exact LeO.none _
   | refine LeO.ite ?_ ?_
   | refine LeO.bind ?_ (fun _ => ?_)
theorem spec_AutoUnion.mono : ∀ a0 a1 a2 a3 a4 a5 a6 a7 k, LeO (spec_AutoUnion.f k a0 a1 a2 a3 a4 a5 a6 a7) (spec_AutoUnion.f (k + 1) a0 a1 a2 a3 a4 a5 a6 a7) := by
 intro a0 a1 a2 a3 a4 a5 a6 a7 k
 obtain ⟨ih0, ih1⟩ := spec_AutoUnion.mono_l k
 unfold spec_AutoUnion.f
 repeat' first
   | (with_reducible exact ih0 _ _ _ _ _ _ _ _ _)
   | (with_reducible exact ih1 _ _ _ _ _ _ _ _ _ _ _ _ _)
   | (with_reducible exact spec_AutoOk.mono _ _ _ _ _)
   | (with_reducible exact LeO.refl _)
   | (with_reducible exact LeO.none _)
   | (with_reducible refine LeO.ite ?_ ?_)
   | (with_reducible refine LeO.bind ?_ (fun _ => ?_))
   | exact ih0 _ _ _ _ _ _ _ _ _
   | exact ih1 _ _ _ _ _ _ _ _ _ _ _ _ _
   | exact spec_AutoOk.mono _ _ _ _ _
   | exact LeO.none _
   | refine LeO.ite ?_ ?_
   | refine LeO.bind ?_ (fun _ => ?_)
def spec_AutoUnion.T3 : Bool × List (List Nat × List Nat) := (true, [([], []), ([0], [0]), ([], []), ([2], [2]), ([], []), ([4], [4]), ([3, 5], [3, 5]), ([], []), ([7], [7]), ([], []), ([9], [9]), ([], []), ([11], [11]), ([10, 12], [10, 12]), ([8, 13], [8, 13]), ([1, 6, 14], [1, 6, 14]), ([], []), ([16, 15, 0, 1, 2, 3, 4, 5, 6, 7, 8, 9, 10, 11, 12, 13, 14, 15, 16], [15, 16])])
def spec_AutoUnion.B3 : List Nat := [0, 1, 0, 4, 0, 16, 60, 0, 128, 0, 512, 0, 2048, 7680, 16256, 32767, 0, 131071]
theorem spec_AutoUnion.tab3 : rtab .any (opsOf Try.f34 3) = spec_AutoUnion.T3 := by kernel_rfl
theorem spec_AutoUnion.bits3 : waitsOk spec_AutoUnion.T3.2 spec_AutoUnion.B3 = true := by kernel_rfl
open Go.Proofs.Ytlallflpicgcmaa.Short2 in
set_option maxHeartbeats 8000000 in
set_option maxRecDepth 100000 in
theorem spec_AutoUnion.calls (k : Nat) (a0_0 : Int) (a0_1 : Int) (a0_2 : Int) (A0_3 : Option Addr) (c0_3 : Nat) (l0_3 : List (S68)) (a1_0 : Int) (a1_1 : Int) (a1_2 : Int) (A1_3 : Option Addr) (c1_3 : Nat) (l1_3 : List (S68)) (r1 : Int) (r2 : Int) (r3 : Int) (r4 : List (S68)) (r5 : Bool) (w : World) (hr0_3 : Kd.C k68 w A0_3 l0_3.length l0_3) (hc0_3 : l0_3.length ≤ c0_3) (hr1_3 : Kd.C k68 w A1_3 l1_3.length l1_3) (hc1_3 : l1_3.length ≤ c1_3) (h : spec_AutoUnion.f k a0_0 a0_1 a0_2 l0_3 a1_0 a1_1 a1_2 l1_3 = some (r1, r2, r3, r4, r5)) :
  Calls Try.prog 34 #[.agg #[.int .i64 a0_0, .int .i64 a0_1, .int .i64 a0_2, .slice A0_3 l0_3.length c0_3], .agg #[.int .i64 a1_0, .int .i64 a1_1, .int .i64 a1_2, .slice A1_3 l1_3.length c1_3]] w fun e w' => ∃ v3_ : Value, e = .returned (.tuple #[.agg #[.int .i64 r1, .int .i64 r2, .int .i64 r3, v3_], .bool r5]) ∧ Kd.R k68 68 w' w.heap.size (fun _ => True) v3_ r4 ∧ Below w.heap.size w w' := by
 have hu24 := Try.underlying24; have hu68 := Try.underlying68; have HR0_3 := Aside0.mk hr0_3; have HC0_3 := Aside0.mk hc0_3; clear hr0_3 hc0_3; have HR1_3 := Aside0.mk hr1_3; have HC1_3 := Aside0.mk hc1_3; clear hr1_3 hc1_3; have HB := Aside0.mk (Below.refl w.heap.size w); have H : ((spec_AutoOk.f k a0_0 a0_1 a0_2 l0_3).bind fun t162 => (if t162 = true then ((spec_AutoOk.f k a1_0 a1_1 a1_2 l1_3).bind fun t163 => (if t163 = true then (if a0_0 = a1_0 then (if (wrap64 (a0_1 + a1_1)) > 31 then (spec_AutoUnion.j0 k true a0_0 a0_1 a0_2 l0_3 a1_0 a1_1 a1_2 l1_3) else (spec_AutoUnion.j0 k (decide ((wrap64 ((l0_3.length : Int) + (l1_3.length : Int))) > 2000)) a0_0 a0_1 a0_2 l0_3 a1_0 a1_1 a1_2 l1_3)) else (spec_AutoUnion.j0 k true a0_0 a0_1 a0_2 l0_3 a1_0 a1_1 a1_2 l1_3)) else (spec_AutoUnion.j0 k true a0_0 a0_1 a0_2 l0_3 a1_0 a1_1 a1_2 l1_3))) else (spec_AutoUnion.j0 k true a0_0 a0_1 a0_2 l0_3 a1_0 a1_1 a1_2 l1_3))) = some (r1, r2, r3, r4, r5) := h; clear h; have HC3 := Aside0.mk H; clear H
 go_enter Try.func34, Try.ntmps34
 go_upto_region 1 with (first | ((with_reducible refine gate_dst (N := 2) rfl ?_); (try (refine gate_guard (by rfl) ?_; dsimp only)); refine box_event ?hg (N := 2) ?hd (cs := #[.int .i64 a0_0, .int .i64 a0_1, .int .i64 a0_2, .slice A0_3 l0_3.length c0_3]) (t := 24) ?hr ?_; (case hd => rfl); (case hg => rfl); (case hr => first | (go_simp; done) | (go_simp; rfl)); intro gb159 hg w4 hbox hb; have BK159 := Aside0.mk (hbox); have GW159 := xG HB hg; have GE159 := xG HB hg; replace HB := xS HB hb; clear hb hbox hg) | ((with_reducible refine gate_dst (N := 3) rfl ?_); (try (refine gate_guard (by rfl) ?_; dsimp only)); refine box_event ?hg (N := 3) ?hd (cs := #[.int .i64 a1_0, .int .i64 a1_1, .int .i64 a1_2, .slice A1_3 l1_3.length c1_3]) (t := 24) ?hr ?_; (case hd => rfl); (case hg => rfl); (case hr => first | (go_simp; done) | (go_simp; rfl)); intro gb160 hg w5 hbox hb; have BK160 := Aside0.mk (hbox); have GW160 := xG HB hg; have GE160 := xG HB hg; replace HB := xS HB hb; have NB159_160 := xN BK159 hg; have NB160_159 := xM BK159 hg; replace BK159 := xB BK159 hb; clear hb hbox hg) | ((with_reducible refine gate_dst (N := 4) rfl ?_); (try (refine gate_guard (by rfl) ?_; dsimp only)); refine box_event ?hg (N := 4) ?hd (cs := #[.int .i64 0, .int .i64 0, .int .i64 0, .slice none 0 0]) (t := 24) ?hr ?_; (case hd => rfl); (case hg => rfl); (case hr => first | (go_simp; done) | (go_simp; rfl)); intro gb161 hg w6 hbox hb; have BK161 := Aside0.mk (hbox); have GW161 := xG HB hg; have GE161 := xG HB hg; replace HB := xS HB hb; have NB159_161 := xN BK159 hg; have NB161_159 := xM BK159 hg; replace BK159 := xB BK159 hb; have NB160_161 := xN BK160 hg; have NB161_160 := xM BK160 hg; replace BK160 := xB BK160 hb; clear hb hbox hg))
 (try simp only [Act.put, q3])
 go_cut [41] (fun v41 wc => ∃ (kq : Nat) (x41_2 : Bool), v41 = .bool x41_2 ∧ Aside0 (spec_AutoUnion.j0 kq x41_2 a0_0 a0_1 a0_2 l0_3 a1_0 a1_1 a1_2 l1_3 = some (r1, r2, r3, r4, r5)) ∧ Aside0 (kq ≤ k) ∧ Aside0 (wc.heap[gb159]? = some (.cells #[.int .i64 a0_0, .int .i64 a0_1, .int .i64 a0_2, (.slice A0_3 l0_3.length c0_3)] 24 (0, 0))) ∧ Aside0 (wc.heap[gb160]? = some (.cells #[.int .i64 a1_0, .int .i64 a1_1, .int .i64 a1_2, (.slice A1_3 l1_3.length c1_3)] 24 (0, 0))) ∧ Aside0 (wc.heap[gb161]? = some (.cells #[.int .i64 0, .int .i64 0, .int .i64 0, (.slice none 0 0)] 24 (0, 0))) ∧ Aside0 (Below w.heap.size w wc))
 case first =>
  have H := HC3.out; clear HC3; replace H := Option.bind_eq_some_iff.mp H; obtain ⟨t162, A70, H⟩ := H; replace H : (if t162 = true then ((spec_AutoOk.f k a1_0 a1_1 a1_2 l1_3).bind fun t163 => (if t163 = true then (if a0_0 = a1_0 then (if (wrap64 (a0_1 + a1_1)) > 31 then (spec_AutoUnion.j0 k true a0_0 a0_1 a0_2 l0_3 a1_0 a1_1 a1_2 l1_3) else (spec_AutoUnion.j0 k (decide ((wrap64 ((l0_3.length : Int) + (l1_3.length : Int))) > 2000)) a0_0 a0_1 a0_2 l0_3 a1_0 a1_1 a1_2 l1_3)) else (spec_AutoUnion.j0 k true a0_0 a0_1 a0_2 l0_3 a1_0 a1_1 a1_2 l1_3)) else (spec_AutoUnion.j0 k true a0_0 a0_1 a0_2 l0_3 a1_0 a1_1 a1_2 l1_3))) else (spec_AutoUnion.j0 k true a0_0 a0_1 a0_2 l0_3 a1_0 a1_1 a1_2 l1_3)) = some (r1, r2, r3, r4, r5) := H; have A7 := Aside0.mk A70; clear A70
  by_cases c8 : t162 = true
  ·subst c8
   have H1 : ((spec_AutoOk.f k a1_0 a1_1 a1_2 l1_3).bind fun t163 => (if t163 = true then (if a0_0 = a1_0 then (if (wrap64 (a0_1 + a1_1)) > 31 then (spec_AutoUnion.j0 k true a0_0 a0_1 a0_2 l0_3 a1_0 a1_1 a1_2 l1_3) else (spec_AutoUnion.j0 k (decide ((wrap64 ((l0_3.length : Int) + (l1_3.length : Int))) > 2000)) a0_0 a0_1 a0_2 l0_3 a1_0 a1_1 a1_2 l1_3)) else (spec_AutoUnion.j0 k true a0_0 a0_1 a0_2 l0_3 a1_0 a1_1 a1_2 l1_3)) else (spec_AutoUnion.j0 k true a0_0 a0_1 a0_2 l0_3 a1_0 a1_1 a1_2 l1_3))) = some (r1, r2, r3, r4, r5) := by rw [if_pos rfl] at H; exact H
   clear H; have H := H1; clear H1; replace H := Option.bind_eq_some_iff.mp H; obtain ⟨t163, A90, H⟩ := H; replace H : (if t163 = true then (if a0_0 = a1_0 then (if (wrap64 (a0_1 + a1_1)) > 31 then (spec_AutoUnion.j0 k true a0_0 a0_1 a0_2 l0_3 a1_0 a1_1 a1_2 l1_3) else (spec_AutoUnion.j0 k (decide ((wrap64 ((l0_3.length : Int) + (l1_3.length : Int))) > 2000)) a0_0 a0_1 a0_2 l0_3 a1_0 a1_1 a1_2 l1_3)) else (spec_AutoUnion.j0 k true a0_0 a0_1 a0_2 l0_3 a1_0 a1_1 a1_2 l1_3)) else (spec_AutoUnion.j0 k true a0_0 a0_1 a0_2 l0_3 a1_0 a1_1 a1_2 l1_3)) = some (r1, r2, r3, r4, r5) := H; have A9 := Aside0.mk A90; clear A90
   by_cases c10 : t163 = true
   ·subst c10
    have H1 : (if a0_0 = a1_0 then (if (wrap64 (a0_1 + a1_1)) > 31 then (spec_AutoUnion.j0 k true a0_0 a0_1 a0_2 l0_3 a1_0 a1_1 a1_2 l1_3) else (spec_AutoUnion.j0 k (decide ((wrap64 ((l0_3.length : Int) + (l1_3.length : Int))) > 2000)) a0_0 a0_1 a0_2 l0_3 a1_0 a1_1 a1_2 l1_3)) else (spec_AutoUnion.j0 k true a0_0 a0_1 a0_2 l0_3 a1_0 a1_1 a1_2 l1_3)) = some (r1, r2, r3, r4, r5) := by rw [if_pos rfl] at H; exact H
    clear H; have H := H1; clear H1
    by_cases c11 : a0_0 = a1_0
    ·rw [if_pos c11] at H; have c11b0 : (a0_0 == a1_0) = true := beq_iff_eq.mpr c11; have c11b1 : (a0_0 != a1_0) = false := bne_eq_false_iff_eq.mpr c11; clear c11
     (first | rw [c11b0] | (simp only [i64_w, i32_w]; rw [c11b0]) | skip)
     by_cases c12 : (wrap64 (a0_1 + a1_1)) > 31
     ·rw [if_pos c12] at H; have c12b0 : decide (31 < (wrap64 (a0_1 + a1_1))) = true := decide_eq_true c12; clear c12; have H' := Aside0.mk H; clear H; have hnb13 := NB159_160.out; have hnc13 := NB160_159.out; have hnb14 := NB159_161.out; have hnc14 := NB161_159.out; have hcz15_0 : w6.cell? ⟨gb159, 0, none⟩ = some (.int .i64 a0_0) := b1 BK159 0; have hcz15_1 : w6.cell? ⟨gb159, 1, none⟩ = some (.int .i64 a0_1) := b1 BK159 1; have hcz15_2 : w6.cell? ⟨gb159, 2, none⟩ = some (.int .i64 a0_2) := b1 BK159 2; have hcz15_3 : w6.cell? ⟨gb159, 3, none⟩ = some (.slice A0_3 l0_3.length c0_3) := b1 BK159 3; have hfz15_0 := blk_frozen BK159.out 0; have hfz15_1 := blk_frozen BK159.out 1; have hfz15_2 := blk_frozen BK159.out 2; have hfz15_3 := blk_frozen BK159.out 3
      go_wp2_with (first | ((with_reducible refine gate_callee (f := 20) rfl ?_); refine goesL_ (some 10) rfl rfl Try.func20 (by kernel_rfl) rfl #[.agg #[.int .i64 a0_0, .int .i64 a0_1, .int .i64 a0_2, .slice A0_3 l0_3.length c0_3]] rfl (by (try simp only [m3]); first | done | rfl | (simp only [d2]; rfl)) ?_; (with_reducible refine (spec_AutoOk.calls k a0_0 a0_1 a0_2 _ _ l0_3 true _ ?side1 ?side2 A7.out).mono ?_); (case side1 => exact zC (Kd.C_below HR0_3.out HB.out)); (case side2 => exact HC0_3.out); rintro e w16 ⟨rfl, hb⟩; refine ⟨_, rfl, ?_⟩; replace BK159 := xB BK159 hb; replace BK160 := xB BK160 hb; replace BK161 := xB BK161 hb; replace HB := xS HB hb; (try clear hb); (try clear hb2); (try clear hk); (try clear hi); have hnb17 := NB160_161.out; have hnc17 := NB161_160.out; have hcz18_0 : w16.cell? ⟨gb160, 0, none⟩ = some (.int .i64 a1_0) := b1 BK160 0; have hcz18_1 : w16.cell? ⟨gb160, 1, none⟩ = some (.int .i64 a1_1) := b1 BK160 1; have hcz18_2 : w16.cell? ⟨gb160, 2, none⟩ = some (.int .i64 a1_2) := b1 BK160 2; have hcz18_3 : w16.cell? ⟨gb160, 3, none⟩ = some (.slice A1_3 l1_3.length c1_3) := b1 BK160 3; have hfz18_0 := blk_frozen BK160.out 0; have hfz18_1 := blk_frozen BK160.out 1; have hfz18_2 := blk_frozen BK160.out 2; have hfz18_3 := blk_frozen BK160.out 3) | (go_at_call 20; (with_reducible refine (spec_AutoOk.calls k a1_0 a1_1 a1_2 _ _ l1_3 true _ ?side1 ?side2 A9.out).mono ?_); (case side1 => exact zC (Kd.C_below HR1_3.out HB.out)); (case side2 => exact HC1_3.out); rintro e w19 ⟨rfl, hb⟩; replace BK159 := xB BK159 hb; replace BK160 := xB BK160 hb; replace BK161 := xB BK161 hb; replace HB := xS HB hb; (try clear hb); (try clear hb2); (try clear hk); (try clear hi); have hcz20_0 : w19.cell? ⟨gb159, 0, none⟩ = some (.int .i64 a0_0) := b1 BK159 0; have hcz20_1 : w19.cell? ⟨gb159, 1, none⟩ = some (.int .i64 a0_1) := b1 BK159 1; have hcz20_2 : w19.cell? ⟨gb159, 2, none⟩ = some (.int .i64 a0_2) := b1 BK159 2; have hcz20_3 : w19.cell? ⟨gb159, 3, none⟩ = some (.slice A0_3 l0_3.length c0_3) := b1 BK159 3; have hfz20_0 := blk_frozen BK159.out 0; have hfz20_1 := blk_frozen BK159.out 1; have hfz20_2 := blk_frozen BK159.out 2; have hfz20_3 := blk_frozen BK159.out 3; have hcz21_0 : w19.cell? ⟨gb160, 0, none⟩ = some (.int .i64 a1_0) := b1 BK160 0; have hcz21_1 : w19.cell? ⟨gb160, 1, none⟩ = some (.int .i64 a1_1) := b1 BK160 1; have hcz21_2 : w19.cell? ⟨gb160, 2, none⟩ = some (.int .i64 a1_2) := b1 BK160 2; have hcz21_3 : w19.cell? ⟨gb160, 3, none⟩ = some (.slice A1_3 l1_3.length c1_3) := b1 BK160 3; have hfz21_0 := blk_frozen BK160.out 0; have hfz21_1 := blk_frozen BK160.out 1; have hfz21_2 := blk_frozen BK160.out 2; have hfz21_3 := blk_frozen BK160.out 3))
      go_meet
      case rel => exact ⟨_, (true), (by first | rfl | (simp; done) | (simp [*]; done)), H', ⟨by first | omega | exact Nat.le_refl _⟩, ⟨zB BK159.out⟩, ⟨zB BK160.out⟩, ⟨zB BK161.out⟩, ⟨zS HB.out⟩⟩
     ·rw [if_neg c12] at H; have c12b0 : decide (31 < (wrap64 (a0_1 + a1_1))) = false := decide_eq_false c12; clear c12; have H' := Aside0.mk H; clear H; have hnb22 := NB159_160.out; have hnc22 := NB160_159.out; have hnb23 := NB159_161.out; have hnc23 := NB161_159.out; have hcz24_0 : w6.cell? ⟨gb159, 0, none⟩ = some (.int .i64 a0_0) := b1 BK159 0; have hcz24_1 : w6.cell? ⟨gb159, 1, none⟩ = some (.int .i64 a0_1) := b1 BK159 1; have hcz24_2 : w6.cell? ⟨gb159, 2, none⟩ = some (.int .i64 a0_2) := b1 BK159 2; have hcz24_3 : w6.cell? ⟨gb159, 3, none⟩ = some (.slice A0_3 l0_3.length c0_3) := b1 BK159 3; have hfz24_0 := blk_frozen BK159.out 0; have hfz24_1 := blk_frozen BK159.out 1; have hfz24_2 := blk_frozen BK159.out 2; have hfz24_3 := blk_frozen BK159.out 3
      go_wp2_with (first | ((with_reducible refine gate_callee (f := 20) rfl ?_); refine goesL_ (some 10) rfl rfl Try.func20 (by kernel_rfl) rfl #[.agg #[.int .i64 a0_0, .int .i64 a0_1, .int .i64 a0_2, .slice A0_3 l0_3.length c0_3]] rfl (by (try simp only [m3]); first | done | rfl | (simp only [d2]; rfl)) ?_; (with_reducible refine (spec_AutoOk.calls k a0_0 a0_1 a0_2 _ _ l0_3 true _ ?side1 ?side2 A7.out).mono ?_); (case side1 => exact zC (Kd.C_below HR0_3.out HB.out)); (case side2 => exact HC0_3.out); rintro e w25 ⟨rfl, hb⟩; refine ⟨_, rfl, ?_⟩; replace BK159 := xB BK159 hb; replace BK160 := xB BK160 hb; replace BK161 := xB BK161 hb; replace HB := xS HB hb; (try clear hb); (try clear hb2); (try clear hk); (try clear hi); have hnb26 := NB160_161.out; have hnc26 := NB161_160.out; have hcz27_0 : w25.cell? ⟨gb160, 0, none⟩ = some (.int .i64 a1_0) := b1 BK160 0; have hcz27_1 : w25.cell? ⟨gb160, 1, none⟩ = some (.int .i64 a1_1) := b1 BK160 1; have hcz27_2 : w25.cell? ⟨gb160, 2, none⟩ = some (.int .i64 a1_2) := b1 BK160 2; have hcz27_3 : w25.cell? ⟨gb160, 3, none⟩ = some (.slice A1_3 l1_3.length c1_3) := b1 BK160 3; have hfz27_0 := blk_frozen BK160.out 0; have hfz27_1 := blk_frozen BK160.out 1; have hfz27_2 := blk_frozen BK160.out 2; have hfz27_3 := blk_frozen BK160.out 3) | (go_at_call 20; (with_reducible refine (spec_AutoOk.calls k a1_0 a1_1 a1_2 _ _ l1_3 true _ ?side1 ?side2 A9.out).mono ?_); (case side1 => exact zC (Kd.C_below HR1_3.out HB.out)); (case side2 => exact HC1_3.out); rintro e w28 ⟨rfl, hb⟩; replace BK159 := xB BK159 hb; replace BK160 := xB BK160 hb; replace BK161 := xB BK161 hb; replace HB := xS HB hb; (try clear hb); (try clear hb2); (try clear hk); (try clear hi); have hcz29_0 : w28.cell? ⟨gb159, 0, none⟩ = some (.int .i64 a0_0) := b1 BK159 0; have hcz29_1 : w28.cell? ⟨gb159, 1, none⟩ = some (.int .i64 a0_1) := b1 BK159 1; have hcz29_2 : w28.cell? ⟨gb159, 2, none⟩ = some (.int .i64 a0_2) := b1 BK159 2; have hcz29_3 : w28.cell? ⟨gb159, 3, none⟩ = some (.slice A0_3 l0_3.length c0_3) := b1 BK159 3; have hfz29_0 := blk_frozen BK159.out 0; have hfz29_1 := blk_frozen BK159.out 1; have hfz29_2 := blk_frozen BK159.out 2; have hfz29_3 := blk_frozen BK159.out 3; have hcz30_0 : w28.cell? ⟨gb160, 0, none⟩ = some (.int .i64 a1_0) := b1 BK160 0; have hcz30_1 : w28.cell? ⟨gb160, 1, none⟩ = some (.int .i64 a1_1) := b1 BK160 1; have hcz30_2 : w28.cell? ⟨gb160, 2, none⟩ = some (.int .i64 a1_2) := b1 BK160 2; have hcz30_3 : w28.cell? ⟨gb160, 3, none⟩ = some (.slice A1_3 l1_3.length c1_3) := b1 BK160 3; have hfz30_0 := blk_frozen BK160.out 0; have hfz30_1 := blk_frozen BK160.out 1; have hfz30_2 := blk_frozen BK160.out 2; have hfz30_3 := blk_frozen BK160.out 3))
      go_meet
      case rel => exact ⟨_, (decide ((wrap64 ((l0_3.length : Int) + (l1_3.length : Int))) > 2000)), (by first | rfl | (simp; done) | (simp [*]; done)), H', ⟨by first | omega | exact Nat.le_refl _⟩, ⟨zB BK159.out⟩, ⟨zB BK160.out⟩, ⟨zB BK161.out⟩, ⟨zS HB.out⟩⟩
    ·rw [if_neg c11] at H; have c11b0 : (a0_0 == a1_0) = false := beq_eq_false_iff_ne.mpr c11; have c11b1 : (a0_0 != a1_0) = true := bne_iff_ne.mpr c11
     (first | rw [c11b0] | (simp only [i64_w, i32_w]; rw [c11b0]) | skip)
     have H' := Aside0.mk H; clear H; have hnb31 := NB159_160.out; have hnc31 := NB160_159.out; have hnb32 := NB159_161.out; have hnc32 := NB161_159.out; have hcz33_0 : w6.cell? ⟨gb159, 0, none⟩ = some (.int .i64 a0_0) := b1 BK159 0; have hcz33_1 : w6.cell? ⟨gb159, 1, none⟩ = some (.int .i64 a0_1) := b1 BK159 1; have hcz33_2 : w6.cell? ⟨gb159, 2, none⟩ = some (.int .i64 a0_2) := b1 BK159 2; have hcz33_3 : w6.cell? ⟨gb159, 3, none⟩ = some (.slice A0_3 l0_3.length c0_3) := b1 BK159 3; have hfz33_0 := blk_frozen BK159.out 0; have hfz33_1 := blk_frozen BK159.out 1; have hfz33_2 := blk_frozen BK159.out 2; have hfz33_3 := blk_frozen BK159.out 3
     go_wp2_with (first | ((with_reducible refine gate_callee (f := 20) rfl ?_); refine goesL_ (some 10) rfl rfl Try.func20 (by kernel_rfl) rfl #[.agg #[.int .i64 a0_0, .int .i64 a0_1, .int .i64 a0_2, .slice A0_3 l0_3.length c0_3]] rfl (by (try simp only [m3]); first | done | rfl | (simp only [d2]; rfl)) ?_; (with_reducible refine (spec_AutoOk.calls k a0_0 a0_1 a0_2 _ _ l0_3 true _ ?side1 ?side2 A7.out).mono ?_); (case side1 => exact zC (Kd.C_below HR0_3.out HB.out)); (case side2 => exact HC0_3.out); rintro e w34 ⟨rfl, hb⟩; refine ⟨_, rfl, ?_⟩; replace BK159 := xB BK159 hb; replace BK160 := xB BK160 hb; replace BK161 := xB BK161 hb; replace HB := xS HB hb; (try clear hb); (try clear hb2); (try clear hk); (try clear hi); have hnb35 := NB160_161.out; have hnc35 := NB161_160.out; have hcz36_0 : w34.cell? ⟨gb160, 0, none⟩ = some (.int .i64 a1_0) := b1 BK160 0; have hcz36_1 : w34.cell? ⟨gb160, 1, none⟩ = some (.int .i64 a1_1) := b1 BK160 1; have hcz36_2 : w34.cell? ⟨gb160, 2, none⟩ = some (.int .i64 a1_2) := b1 BK160 2; have hcz36_3 : w34.cell? ⟨gb160, 3, none⟩ = some (.slice A1_3 l1_3.length c1_3) := b1 BK160 3; have hfz36_0 := blk_frozen BK160.out 0; have hfz36_1 := blk_frozen BK160.out 1; have hfz36_2 := blk_frozen BK160.out 2; have hfz36_3 := blk_frozen BK160.out 3) | (go_at_call 20; (with_reducible refine (spec_AutoOk.calls k a1_0 a1_1 a1_2 _ _ l1_3 true _ ?side1 ?side2 A9.out).mono ?_); (case side1 => exact zC (Kd.C_below HR1_3.out HB.out)); (case side2 => exact HC1_3.out); rintro e w37 ⟨rfl, hb⟩; replace BK159 := xB BK159 hb; replace BK160 := xB BK160 hb; replace BK161 := xB BK161 hb; replace HB := xS HB hb; (try clear hb); (try clear hb2); (try clear hk); (try clear hi); have hcz38_0 : w37.cell? ⟨gb159, 0, none⟩ = some (.int .i64 a0_0) := b1 BK159 0; have hcz38_1 : w37.cell? ⟨gb159, 1, none⟩ = some (.int .i64 a0_1) := b1 BK159 1; have hcz38_2 : w37.cell? ⟨gb159, 2, none⟩ = some (.int .i64 a0_2) := b1 BK159 2; have hcz38_3 : w37.cell? ⟨gb159, 3, none⟩ = some (.slice A0_3 l0_3.length c0_3) := b1 BK159 3; have hfz38_0 := blk_frozen BK159.out 0; have hfz38_1 := blk_frozen BK159.out 1; have hfz38_2 := blk_frozen BK159.out 2; have hfz38_3 := blk_frozen BK159.out 3; have hcz39_0 : w37.cell? ⟨gb160, 0, none⟩ = some (.int .i64 a1_0) := b1 BK160 0; have hcz39_1 : w37.cell? ⟨gb160, 1, none⟩ = some (.int .i64 a1_1) := b1 BK160 1; have hcz39_2 : w37.cell? ⟨gb160, 2, none⟩ = some (.int .i64 a1_2) := b1 BK160 2; have hcz39_3 : w37.cell? ⟨gb160, 3, none⟩ = some (.slice A1_3 l1_3.length c1_3) := b1 BK160 3; have hfz39_0 := blk_frozen BK160.out 0; have hfz39_1 := blk_frozen BK160.out 1; have hfz39_2 := blk_frozen BK160.out 2; have hfz39_3 := blk_frozen BK160.out 3))
     go_meet
     case rel => exact ⟨_, (true), (by first | rfl | (simp; done) | (simp [*]; done)), H', ⟨by first | omega | exact Nat.le_refl _⟩, ⟨zB BK159.out⟩, ⟨zB BK160.out⟩, ⟨zB BK161.out⟩, ⟨zS HB.out⟩⟩
   ·replace c10 := Bool.eq_false_iff.mpr c10; subst c10
    have H1 : (spec_AutoUnion.j0 k true a0_0 a0_1 a0_2 l0_3 a1_0 a1_1 a1_2 l1_3) = some (r1, r2, r3, r4, r5) := by rw [if_neg (show ¬ (false = true) by decide)] at H; exact H
    clear H; have H := H1; clear H1; have H' := Aside0.mk H; clear H; have hnb40 := NB159_160.out; have hnc40 := NB160_159.out; have hnb41 := NB159_161.out; have hnc41 := NB161_159.out; have hcz42_0 : w6.cell? ⟨gb159, 0, none⟩ = some (.int .i64 a0_0) := b1 BK159 0; have hcz42_1 : w6.cell? ⟨gb159, 1, none⟩ = some (.int .i64 a0_1) := b1 BK159 1; have hcz42_2 : w6.cell? ⟨gb159, 2, none⟩ = some (.int .i64 a0_2) := b1 BK159 2; have hcz42_3 : w6.cell? ⟨gb159, 3, none⟩ = some (.slice A0_3 l0_3.length c0_3) := b1 BK159 3; have hfz42_0 := blk_frozen BK159.out 0; have hfz42_1 := blk_frozen BK159.out 1; have hfz42_2 := blk_frozen BK159.out 2; have hfz42_3 := blk_frozen BK159.out 3
    go_wp2_with (first | ((with_reducible refine gate_callee (f := 20) rfl ?_); refine goesL_ (some 10) rfl rfl Try.func20 (by kernel_rfl) rfl #[.agg #[.int .i64 a0_0, .int .i64 a0_1, .int .i64 a0_2, .slice A0_3 l0_3.length c0_3]] rfl (by (try simp only [m3]); first | done | rfl | (simp only [d2]; rfl)) ?_; (with_reducible refine (spec_AutoOk.calls k a0_0 a0_1 a0_2 _ _ l0_3 true _ ?side1 ?side2 A7.out).mono ?_); (case side1 => exact zC (Kd.C_below HR0_3.out HB.out)); (case side2 => exact HC0_3.out); rintro e w43 ⟨rfl, hb⟩; refine ⟨_, rfl, ?_⟩; replace BK159 := xB BK159 hb; replace BK160 := xB BK160 hb; replace BK161 := xB BK161 hb; replace HB := xS HB hb; (try clear hb); (try clear hb2); (try clear hk); (try clear hi); have hnb44 := NB160_161.out; have hnc44 := NB161_160.out; have hcz45_0 : w43.cell? ⟨gb160, 0, none⟩ = some (.int .i64 a1_0) := b1 BK160 0; have hcz45_1 : w43.cell? ⟨gb160, 1, none⟩ = some (.int .i64 a1_1) := b1 BK160 1; have hcz45_2 : w43.cell? ⟨gb160, 2, none⟩ = some (.int .i64 a1_2) := b1 BK160 2; have hcz45_3 : w43.cell? ⟨gb160, 3, none⟩ = some (.slice A1_3 l1_3.length c1_3) := b1 BK160 3; have hfz45_0 := blk_frozen BK160.out 0; have hfz45_1 := blk_frozen BK160.out 1; have hfz45_2 := blk_frozen BK160.out 2; have hfz45_3 := blk_frozen BK160.out 3) | (go_at_call 20; (with_reducible refine (spec_AutoOk.calls k a1_0 a1_1 a1_2 _ _ l1_3 false _ ?side1 ?side2 A9.out).mono ?_); (case side1 => exact zC (Kd.C_below HR1_3.out HB.out)); (case side2 => exact HC1_3.out); rintro e w46 ⟨rfl, hb⟩; replace BK159 := xB BK159 hb; replace BK160 := xB BK160 hb; replace BK161 := xB BK161 hb; replace HB := xS HB hb; (try clear hb); (try clear hb2); (try clear hk); (try clear hi)))
    go_meet
    case rel => exact ⟨_, (true), (by first | rfl | (simp; done) | (simp [*]; done)), H', ⟨by first | omega | exact Nat.le_refl _⟩, ⟨zB BK159.out⟩, ⟨zB BK160.out⟩, ⟨zB BK161.out⟩, ⟨zS HB.out⟩⟩
  ·replace c8 := Bool.eq_false_iff.mpr c8; subst c8
   have H1 : (spec_AutoUnion.j0 k true a0_0 a0_1 a0_2 l0_3 a1_0 a1_1 a1_2 l1_3) = some (r1, r2, r3, r4, r5) := by rw [if_neg (show ¬ (false = true) by decide)] at H; exact H
   clear H; have H := H1; clear H1; have H' := Aside0.mk H; clear H; have hnb47 := NB159_160.out; have hnc47 := NB160_159.out; have hnb48 := NB159_161.out; have hnc48 := NB161_159.out; have hcz49_0 : w6.cell? ⟨gb159, 0, none⟩ = some (.int .i64 a0_0) := b1 BK159 0; have hcz49_1 : w6.cell? ⟨gb159, 1, none⟩ = some (.int .i64 a0_1) := b1 BK159 1; have hcz49_2 : w6.cell? ⟨gb159, 2, none⟩ = some (.int .i64 a0_2) := b1 BK159 2; have hcz49_3 : w6.cell? ⟨gb159, 3, none⟩ = some (.slice A0_3 l0_3.length c0_3) := b1 BK159 3; have hfz49_0 := blk_frozen BK159.out 0; have hfz49_1 := blk_frozen BK159.out 1; have hfz49_2 := blk_frozen BK159.out 2; have hfz49_3 := blk_frozen BK159.out 3
   go_wp2_with (first | ((with_reducible refine gate_callee (f := 20) rfl ?_); refine goesL_ (some 10) rfl rfl Try.func20 (by kernel_rfl) rfl #[.agg #[.int .i64 a0_0, .int .i64 a0_1, .int .i64 a0_2, .slice A0_3 l0_3.length c0_3]] rfl (by (try simp only [m3]); first | done | rfl | (simp only [d2]; rfl)) ?_; (with_reducible refine (spec_AutoOk.calls k a0_0 a0_1 a0_2 _ _ l0_3 false _ ?side1 ?side2 A7.out).mono ?_); (case side1 => exact zC (Kd.C_below HR0_3.out HB.out)); (case side2 => exact HC0_3.out); rintro e w50 ⟨rfl, hb⟩; refine ⟨_, rfl, ?_⟩; replace BK159 := xB BK159 hb; replace BK160 := xB BK160 hb; replace BK161 := xB BK161 hb; replace HB := xS HB hb; (try clear hb); (try clear hb2); (try clear hk); (try clear hi)))
   go_meet
   case rel => exact ⟨_, (true), (by first | rfl | (simp; done) | (simp [*]; done)), H', ⟨by first | omega | exact Nat.le_refl _⟩, ⟨zB BK159.out⟩, ⟨zB BK160.out⟩, ⟨zB BK161.out⟩, ⟨zS HB.out⟩⟩
 case rest =>
  clear HC3
  try clear c1
  try clear c2
  try clear p2
  try clear c3
  try clear c4
  try clear p6
  try clear c8
  try clear c10
  try clear c11
  try clear c11b0
  try clear c11b1
  try clear c12
  try clear c12b0
  try clear c13
  try clear c14
  try clear c17
  try clear c20
  try clear c22
  try clear c23
  try clear c26
  try clear c31
  try clear c32
  try clear c34
  try clear c35
  try clear c40
  try clear c41
  try clear c44
  try clear c47
  try clear c48
  try clear hcz15_0
  try clear hcz15_1
  try clear hcz15_2
  try clear hcz15_3
  try clear hcz18_0
  try clear hcz18_1
  try clear hcz18_2
  try clear hcz18_3
  try clear hcz20_0
  try clear hcz20_1
  try clear hcz20_2
  try clear hcz20_3
  try clear hcz21_0
  try clear hcz21_1
  try clear hcz21_2
  try clear hcz21_3
  try clear hcz24_0
  try clear hcz24_1
  try clear hcz24_2
  try clear hcz24_3
  try clear hcz27_0
  try clear hcz27_1
  try clear hcz27_2
  try clear hcz27_3
  try clear hcz29_0
  try clear hcz29_1
  try clear hcz29_2
  try clear hcz29_3
  try clear hcz30_0
  try clear hcz30_1
  try clear hcz30_2
  try clear hcz30_3
  try clear hcz33_0
  try clear hcz33_1
  try clear hcz33_2
  try clear hcz33_3
  try clear hcz36_0
  try clear hcz36_1
  try clear hcz36_2
  try clear hcz36_3
  try clear hcz38_0
  try clear hcz38_1
  try clear hcz38_2
  try clear hcz38_3
  try clear hcz39_0
  try clear hcz39_1
  try clear hcz39_2
  try clear hcz39_3
  try clear hcz42_0
  try clear hcz42_1
  try clear hcz42_2
  try clear hcz42_3
  try clear hcz45_0
  try clear hcz45_1
  try clear hcz45_2
  try clear hcz45_3
  try clear hcz49_0
  try clear hcz49_1
  try clear hcz49_2
  try clear hcz49_3
  try clear hfz15_0
  try clear hfz15_1
  try clear hfz15_2
  try clear hfz15_3
  try clear hfz18_0
  try clear hfz18_1
  try clear hfz18_2
  try clear hfz18_3
  try clear hfz20_0
  try clear hfz20_1
  try clear hfz20_2
  try clear hfz20_3
  try clear hfz21_0
  try clear hfz21_1
  try clear hfz21_2
  try clear hfz21_3
  try clear hfz24_0
  try clear hfz24_1
  try clear hfz24_2
  try clear hfz24_3
  try clear hfz27_0
  try clear hfz27_1
  try clear hfz27_2
  try clear hfz27_3
  try clear hfz29_0
  try clear hfz29_1
  try clear hfz29_2
  try clear hfz29_3
  try clear hfz30_0
  try clear hfz30_1
  try clear hfz30_2
  try clear hfz30_3
  try clear hfz33_0
  try clear hfz33_1
  try clear hfz33_2
  try clear hfz33_3
  try clear hfz36_0
  try clear hfz36_1
  try clear hfz36_2
  try clear hfz36_3
  try clear hfz38_0
  try clear hfz38_1
  try clear hfz38_2
  try clear hfz38_3
  try clear hfz39_0
  try clear hfz39_1
  try clear hfz39_2
  try clear hfz39_3
  try clear hfz42_0
  try clear hfz42_1
  try clear hfz42_2
  try clear hfz42_3
  try clear hfz45_0
  try clear hfz45_1
  try clear hfz45_2
  try clear hfz45_3
  try clear hfz49_0
  try clear hfz49_1
  try clear hfz49_2
  try clear hfz49_3
  obtain ⟨kq, x41_2, rfl, HA, HJ2, BK159, BK160, BK161, HB⟩ := hcut
  cases kq with
  | zero => exact absurd HA.out (by simp [spec_AutoUnion.j0])
  | succ kj2 =>
   have H := HA.out; clear HA; simp only [spec_AutoUnion.j0] at H
   by_cases c51 : x41_2 = true
   ·subst c51
    have H1 : (some (0, 0, 0, ([] : List (S68)), false)) = some (r1, r2, r3, r4, r5) := by rw [if_pos rfl] at H; exact H
    clear H; have H := H1; clear H1; simp only [Option.some.injEq, Prod.mk.injEq] at H; obtain ⟨rfl, rfl, rfl, rfl, rfl⟩ := H; have hnb52 := NB161_159.out; have hnc52 := NB159_161.out; have hnb53 := NB161_160.out; have hnc53 := NB160_161.out; have hcz54_0 : wc.cell? ⟨gb161, 0, none⟩ = some (.int .i64 0) := b1 BK161 0; have hcz54_1 : wc.cell? ⟨gb161, 1, none⟩ = some (.int .i64 0) := b1 BK161 1; have hcz54_2 : wc.cell? ⟨gb161, 2, none⟩ = some (.int .i64 0) := b1 BK161 2; have hcz54_3 : wc.cell? ⟨gb161, 3, none⟩ = some (.slice none 0 0) := b1 BK161 3; have hfz54_0 := blk_frozen BK161.out 0; have hfz54_1 := blk_frozen BK161.out 1; have hfz54_2 := blk_frozen BK161.out 2; have hfz54_3 := blk_frozen BK161.out 3
    go_wp2
    refine bodyPost_ret (results_ct rfl _ _ gb161 24 #[.int .i64 0, .int .i64 0, .int .i64 0, .slice none 0 0] (0, 0) _ rfl (xP4 BK161.out) Try.underlying24 rfl (by kernel_rfl)) rfl ?_; exact ⟨_, by first | rfl | (simp [errW_none, errW_some] <;> rfl) | (simp [*, errW_none, errW_some] <;> rfl), by first | exact Kd.R_nil _ _ _ _ _ | exact Kd.N_nil _ _ _ _ _ | exact Kd.V_nil _ _ _ _ _ | exact Kd.Q_nil _ _ _ _ _ | exact Kd.S_nil _ _ _ _ _, by repeat (first | (with_reducible first | exact HB.out | apply below_alloc | apply pw_below_drewN | apply below_drew1 | refine below_set ?_ GE159.out | refine below_set ?_ GE160.out | refine below_set ?_ GE161.out) | exact HB.out)⟩
   ·replace c51 := Bool.eq_false_iff.mpr c51; subst c51
    have H1 : (if 0 ≤ a0_1 then ((some (([] : List (S68)) : List (S68))).bind fun y165 => (if y165.length + l0_3.length < 4398046511104 then (spec_AutoUnion.l0 kj2 0 a0_0 a0_1 a0_2 l0_3 a1_0 a1_1 a1_2 l1_3 a0_0 (wrap64 (a0_1 + a1_1)) (Go.bits .or .i64 a0_2 (shl .i64 a1_2 a0_1)) (y165 ++ l0_3)) else (none))) else (none)) = some (r1, r2, r3, r4, r5) := by rw [if_neg (show ¬ (false = true) by decide)] at H; exact H
    clear H; have H := H1; clear H1
    by_cases c55 : 0 ≤ a0_1
    ·rw [if_pos c55] at H; have c55b0 := eq_true c55; have c55b1 : decide (0 ≤ a0_1) = true := decide_eq_true c55; clear c55; obtain ⟨ji56, hji56⟩ : ∃ j_ : Int, (shl .i64 a1_2 a0_1) = j_ := ⟨_, rfl⟩
     replace H : ((some (([] : List (S68)) : List (S68))).bind fun y165 => (if y165.length + l0_3.length < 4398046511104 then (spec_AutoUnion.l0 kj2 0 a0_0 a0_1 a0_2 l0_3 a1_0 a1_1 a1_2 l1_3 a0_0 (wrap64 (a0_1 + a1_1)) (Go.bits .or .i64 a0_2 (ji56)) (y165 ++ l0_3)) else (none))) = some (r1, r2, r3, r4, r5) := by first | (rw [hji56] at H; exact H) | (simp only [hji56] at H ⊢; exact H)
     have hji56_ : (IntKind.i64.wrap (a1_2 * 2 ^ min a0_1.toNat 64)) = ji56 := hji56; have hji56z : a0_1 ≤ 64 → (IntKind.i64.wrap (a1_2 * 2 ^ a0_1.toNat)) = ji56 := shl_small hji56; have hji56y : (wrap64 (a1_2 * 2 ^ min a0_1.toNat 64)) = ji56 := (i64_w _).symm.trans hji56_; have hji56x : a0_1 ≤ 64 → (wrap64 (a1_2 * 2 ^ a0_1.toNat)) = ji56 := fun h_ => (i64_w _).symm.trans (hji56z h_); obtain ⟨y165, hy165⟩ : ∃ y_ : List (S68), y_ = (([] : List (S68))) := ⟨_, rfl⟩
     replace H : (if y165.length + l0_3.length < 4398046511104 then (spec_AutoUnion.l0 kj2 0 a0_0 a0_1 a0_2 l0_3 a1_0 a1_1 a1_2 l1_3 a0_0 (wrap64 (a0_1 + a1_1)) (Go.bits .or .i64 a0_2 (ji56)) (y165 ++ l0_3)) else (none)) = some (r1, r2, r3, r4, r5) := by first | (rw [hy165]; with_reducible exact H) | (have H2_ := (Option.bind_some _ _).symm.trans H; rw [hy165]; with_reducible exact H2_) | (have H2_ := (Option.bind_some _ _).symm.trans H; with_reducible exact H2_) | with_reducible exact H | (rw [hy165]; exact H) | exact H
     have Ny165 := Aside0.mk hy165; clear hy165
     by_cases c57 : y165.length + l0_3.length < 4398046511104
     ·rw [if_pos c57] at H; have LMc57 := Aside0.mk c57; clear c57; obtain ⟨y168, hy168⟩ : ∃ y_ : List (S68), y_ = (y165 ++ l0_3) := ⟨_, rfl⟩
      replace H : (spec_AutoUnion.l0 kj2 0 a0_0 a0_1 a0_2 l0_3 a1_0 a1_1 a1_2 l1_3 a0_0 (wrap64 (a0_1 + a1_1)) (Go.bits .or .i64 a0_2 (ji56)) y168) = some (r1, r2, r3, r4, r5) := by first | (rw [hy168]; with_reducible exact H) | (have H2_ := (Option.bind_some _ _).symm.trans H; rw [hy168]; with_reducible exact H2_) | (have H2_ := (Option.bind_some _ _).symm.trans H; with_reducible exact H2_) | with_reducible exact H | (rw [hy168]; exact H) | exact H
      have Ny168 := Aside0.mk hy168; clear hy168; have H' := Aside0.mk H; clear H
      try go_wp2
      replace BK159 := Aside0.mk (blk_drew BK159.out); replace BK160 := Aside0.mk (blk_drew BK160.out); replace BK161 := Aside0.mk (blk_drew BK161.out); replace HB := Aside0.mk (below_drew1 HB.out); refine start_ (n := 18) (S := fun w' => w'.cell? ⟨gb159, 0, none⟩ = some (.int .i64 a0_0) ∧ w'.cell? ⟨gb159, 1, none⟩ = some (.int .i64 a0_1) ∧ w'.cell? ⟨gb159, 2, none⟩ = some (.int .i64 a0_2) ∧ w'.cell? ⟨gb159, 3, none⟩ = some (.slice A0_3 l0_3.length c0_3) ∧ w'.cell? ⟨gb160, 0, none⟩ = some (.int .i64 a1_0) ∧ w'.cell? ⟨gb160, 1, none⟩ = some (.int .i64 a1_1) ∧ w'.cell? ⟨gb160, 2, none⟩ = some (.int .i64 a1_2) ∧ w'.cell? ⟨gb160, 3, none⟩ = some (.slice A1_3 l1_3.length c1_3)) (ds := []) bl0 (by kernel_rfl) rfl rfl ⟨b1 BK159 0, b1 BK159 1, b1 BK159 2, b1 BK159 3, b1 BK160 0, b1 BK160 1, b1 BK160 2, b1 BK160 3⟩ (fun hHeld => ?_); refine with_tabW spec_AutoUnion.tab3 spec_AutoUnion.bits3 (fun HT_ HW_ => ?_); generalize wc.drew = w58 at BK159 BK160 BK161 HB hHeld ⊢
      refine pu 0 (some 43) bl1 HT_ ?_ rfl rfl (.inl ⟨by rfl, ?_⟩) ?_ ?_ ?_; rotate_left; (intro w'; go_simp; with_reducible rfl); rotate_left; (simp only [Act.put, q5]; rfl)
      refine pu 2 (some 45) bl2 HT_ ?_ rfl rfl (.inl ⟨by rfl, ?_⟩) ?_ ?_ ?_; rotate_left; (intro w'; go_simp; with_reducible rfl); rotate_left; (simp only [Act.put, q5]; rfl)
      refine pu 4 (some 47) bl3 HT_ ?_ rfl rfl (.inl ⟨by rfl, ?_⟩) ?_ ?_ ?_; rotate_left; (intro w'; go_simp; with_reducible rfl); rotate_left; (simp only [Act.put, q5]; rfl)
      refine pu 7 (some 50) bl4 HT_ ?_ rfl rfl (.inl ⟨by rfl, ?_⟩) ?_ ?_ ?_; rotate_left; (intro w'; go_simp; with_reducible rfl); rotate_left; (simp only [Act.put, q5]; rfl)
      refine pu 9 (some 52) bl5 HT_ ?_ rfl rfl (.inl ⟨by rfl, ?_⟩) ?_ ?_ ?_; rotate_left; (intro w'; go_simp; with_reducible rfl); rotate_left; (simp only [Act.put, q5]; rfl)
      refine pu 11 (some 54) bl6 HT_ ?_ rfl rfl (.inl ⟨by rfl, ?_⟩) ?_ ?_ ?_; rotate_left; (intro w'; go_simp; with_reducible rfl); rotate_left; (simp only [Act.put, q5]; rfl)
      refine take_ (i := 1) (N := some 44) (v := ?_) (a' := ?_) bl7 rfl rfl (take_ofW HT_.out HW_.out (by kernel_rfl)) (fun _ _ _ h => h) (Or.inl ⟨by rfl, ?_⟩) hHeld ?_ ?_; rotate_left
      ·rintro w' ⟨s0, s1, s2, s3, s4, s5, s6, s7⟩; go_simp; with_reducible rfl
      rotate_left
      ·simp only [Act.put, q5]; rfl
      refine take_ (i := 3) (N := some 46) (v := ?_) (a' := ?_) bl8 rfl rfl (take_ofW HT_.out HW_.out (by kernel_rfl)) (fun _ _ _ h => h) (Or.inl ⟨by rfl, ?_⟩) hHeld ?_ ?_; rotate_left
      ·rintro w' ⟨s0, s1, s2, s3, s4, s5, s6, s7⟩; go_simp; with_reducible rfl
      rotate_left
      ·simp only [Act.put, q5]; rfl
      refine take_ (i := 5) (N := some 48) (v := ?_) (a' := ?_) bl9 rfl rfl (take_ofW HT_.out HW_.out (by kernel_rfl)) (fun _ _ _ h => h) (Or.inl ⟨by rfl, ?_⟩) hHeld ?_ ?_; rotate_left
      ·rintro w' ⟨s0, s1, s2, s3, s4, s5, s6, s7⟩; go_simp; with_reducible rfl
      rotate_left
      ·simp only [Act.put, q5]; rfl
      refine pu 6 (some 49) bl10 HT_ ?_ rfl rfl (.inl ⟨by rfl, ?_⟩) ?_ ?_ ?_; rotate_left; (intro w'; go_simp; with_reducible rfl); rotate_left; (simp only [Act.put, q5]; rfl)
      refine take_ (i := 8) (N := some 51) (v := ?_) (a' := ?_) bl11 rfl rfl (take_ofW HT_.out HW_.out (by kernel_rfl)) (fun _ _ _ h => h) (Or.inl ⟨by rfl, ?_⟩) hHeld ?_ ?_; rotate_left
      ·rintro w' ⟨s0, s1, s2, s3, s4, s5, s6, s7⟩; go_simp; with_reducible rfl
      rotate_left
      ·simp only [Act.put, q5]; rfl
      refine take_ (i := 10) (N := some 53) (v := ?_) (a' := ?_) bl12 rfl rfl (take_ofW HT_.out HW_.out (by kernel_rfl)) (fun _ _ _ h => h) (Or.inl ⟨by rfl, ?_⟩) hHeld ?_ ?_; rotate_left
      ·rintro w' ⟨s0, s1, s2, s3, s4, s5, s6, s7⟩; go_simp; with_reducible rfl
      rotate_left
      ·simp only [Act.put, q5]; rfl
      refine take_ (i := 12) (N := some 55) (v := ?_) (a' := ?_) bl13 rfl rfl (take_ofW HT_.out HW_.out (by kernel_rfl)) (fun _ _ _ h => h) (Or.inl ⟨by rfl, ?_⟩) hHeld ?_ ?_; rotate_left
      ·rintro w' ⟨s0, s1, s2, s3, s4, s5, s6, s7⟩; go_simp; with_reducible rfl
      rotate_left
      ·simp only [Act.put, q5]; rfl
      refine pu 13 (some 56) bl14 HT_ ?_ rfl rfl (.inl ⟨by rfl, ?_⟩) ?_ ?_ ?_; rotate_left; (intro w'; go_simp; with_reducible rfl); rotate_left; (simp only [Act.put, q5]; rfl)
      refine pu 14 (some 57) bl15 HT_ ?_ rfl rfl (.inl ⟨by rfl, ?_⟩) ?_ ?_ ?_; rotate_left; (intro w'; go_simp; with_reducible rfl); rotate_left; (simp only [Act.put, q5]; rfl)
      refine pu 15 (some 58) bl16 HT_ ?_ rfl rfl (.inl ⟨by rfl, ?_⟩) ?_ ?_ ?_; rotate_left; (intro w'; go_simp; with_reducible rfl); rotate_left; (simp only [Act.put, q5]; rfl)
      refine one_ (i := 16) (N := some 6) bl17 rfl rfl (one_of HT_.out (by kernel_rfl)) (by decide) (fun K hK => ?_)
      refine box_step ?hg (N := 6) ?hd (cs := #[.int .i64 0, .int .i64 0, .int .i64 0, .slice none 0 0]) (t := 24) ?hr ?_; (case hd => rfl); (case hg => rfl); (case hr => first | (go_simp; done) | (go_simp; rfl))
      intro gb164 hg w59 hbox hb; have BK164 := Aside0.mk (hbox); have GW164 := xG HB hg; have GE164 := xG HB hg; replace HB := xS HB hb; have NB159_164 := xN BK159 hg; have NB164_159 := xM BK159 hg; replace BK159 := xB BK159 hb; have NB160_164 := xN BK160 hg; have NB164_160 := xM BK160 hg; replace BK160 := xB BK160 hb; have NB161_164 := xN BK161 hg; have NB164_161 := xM BK161 hg; replace BK161 := xB BK161 hb; clear hb hbox hg; refine hK.out _ _ ⟨b1 BK159 0, b1 BK159 1, b1 BK159 2, b1 BK159 3, b1 BK160 0, b1 BK160 1, b1 BK160 2, b1 BK160 3⟩ (fun hHeld => ?_); clear hK K; refine norm_ (a' := ?_) ?_ ?_; rotate_left
      ·show Act.put _ (some 6) _ = _; simp only [Act.put, q5]; rfl
      refine one_ (i := 17) (N := none) bl18 rfl rfl (one_of HT_.out (by kernel_rfl)) (by decide) (fun K hK => ?_); have hs60 : w59.cell? ⟨gb164, 0, none⟩ = some (.int .i64 0) := b1 BK164 0; have hfs60 := blk_frozen BK164.out 0; have hns60_0 := NB159_164.out; have hns60_1 := NB160_164.out; have hns60_2 := NB161_164.out; have hms60_0 := NB164_159.out; have hms60_1 := NB164_160.out; have hms60_2 := NB164_161.out; have hs61 : w59.cell? ⟨gb164, 1, none⟩ = some (.int .i64 0) := b1 BK164 1; have hfs61 := blk_frozen BK164.out 1; have hns61_0 := NB159_164.out; have hns61_1 := NB160_164.out; have hns61_2 := NB161_164.out; have hms61_0 := NB164_159.out; have hms61_1 := NB164_160.out; have hms61_2 := NB164_161.out; have hs62 : w59.cell? ⟨gb164, 2, none⟩ = some (.int .i64 0) := b1 BK164 2; have hfs62 := blk_frozen BK164.out 2; have hns62_0 := NB159_164.out; have hns62_1 := NB160_164.out; have hns62_2 := NB161_164.out; have hms62_0 := NB164_159.out; have hms62_1 := NB164_160.out; have hms62_2 := NB164_161.out; have hs63 : w59.cell? ⟨gb164, 3, none⟩ = some (.slice none 0 0) := b1 BK164 3; have hfs63 := blk_frozen BK164.out 3; have hns63_0 := NB159_164.out; have hns63_1 := NB160_164.out; have hns63_2 := NB161_164.out; have hms63_0 := NB164_159.out; have hms63_1 := NB164_160.out; have hms63_2 := NB164_161.out; refine skip_ (w1 := ?_) (by rfl) rfl ?_ ?_; rotate_left
      ·go_simp; rfl
      refine hK.out _ _ ⟨((cell_far (p := ⟨gb164, _, none⟩) NB159_164.out _).trans (((cell_far (p := ⟨gb164, _, none⟩) NB159_164.out _).trans (((cell_far (p := ⟨gb164, _, none⟩) NB159_164.out _).trans (((cell_far (p := ⟨gb164, _, none⟩) NB159_164.out _).trans (hHeld.1)))))))), ((cell_far (p := ⟨gb164, _, none⟩) NB159_164.out _).trans (((cell_far (p := ⟨gb164, _, none⟩) NB159_164.out _).trans (((cell_far (p := ⟨gb164, _, none⟩) NB159_164.out _).trans (((cell_far (p := ⟨gb164, _, none⟩) NB159_164.out _).trans (hHeld.2.1)))))))), ((cell_far (p := ⟨gb164, _, none⟩) NB159_164.out _).trans (((cell_far (p := ⟨gb164, _, none⟩) NB159_164.out _).trans (((cell_far (p := ⟨gb164, _, none⟩) NB159_164.out _).trans (((cell_far (p := ⟨gb164, _, none⟩) NB159_164.out _).trans (hHeld.2.2.1)))))))), ((cell_far (p := ⟨gb164, _, none⟩) NB159_164.out _).trans (((cell_far (p := ⟨gb164, _, none⟩) NB159_164.out _).trans (((cell_far (p := ⟨gb164, _, none⟩) NB159_164.out _).trans (((cell_far (p := ⟨gb164, _, none⟩) NB159_164.out _).trans (hHeld.2.2.2.1)))))))), ((cell_far (p := ⟨gb164, _, none⟩) NB160_164.out _).trans (((cell_far (p := ⟨gb164, _, none⟩) NB160_164.out _).trans (((cell_far (p := ⟨gb164, _, none⟩) NB160_164.out _).trans (((cell_far (p := ⟨gb164, _, none⟩) NB160_164.out _).trans (hHeld.2.2.2.2.1)))))))), ((cell_far (p := ⟨gb164, _, none⟩) NB160_164.out _).trans (((cell_far (p := ⟨gb164, _, none⟩) NB160_164.out _).trans (((cell_far (p := ⟨gb164, _, none⟩) NB160_164.out _).trans (((cell_far (p := ⟨gb164, _, none⟩) NB160_164.out _).trans (hHeld.2.2.2.2.2.1)))))))), ((cell_far (p := ⟨gb164, _, none⟩) NB160_164.out _).trans (((cell_far (p := ⟨gb164, _, none⟩) NB160_164.out _).trans (((cell_far (p := ⟨gb164, _, none⟩) NB160_164.out _).trans (((cell_far (p := ⟨gb164, _, none⟩) NB160_164.out _).trans (hHeld.2.2.2.2.2.2.1)))))))), ((cell_far (p := ⟨gb164, _, none⟩) NB160_164.out _).trans (((cell_far (p := ⟨gb164, _, none⟩) NB160_164.out _).trans (((cell_far (p := ⟨gb164, _, none⟩) NB160_164.out _).trans (((cell_far (p := ⟨gb164, _, none⟩) NB160_164.out _).trans (hHeld.2.2.2.2.2.2.2))))))))⟩ (fun hHeld => ?_); clear hK K; refine done_ (done_of HT_.out (by kernel_rfl)) ?_
      try go_wp2_with (first | ((with_reducible refine gate_dst (N := 59) rfl ?_); (try (refine gate_guard (by rfl) ?_; dsimp only)); refine Kd.R_lit k68 _ 68 ?hg (N := 59) ?hd (xs := ([] : List (S68))) (inner := []) (ok := fun _ => True) (okp := fun _ => True) ?hr ?hp (fun _ hk => hk) trivial (Below.refl _ _) (Nat.le_refl _) (by simp) ?_; (case hd => rfl); (case hg => rfl); (case hr => first | (go_simp; done) | (go_simp; rfl)); (case hp => exact (Reps.none _ _)); intro v166 w64 ho65 hb hg_ hnew_; clear hg_ hnew_; (first | rw [← Ny165.out] at ho65 | (simp only [Int.reduceToNat] at ho65; rw [← Ny165.out] at ho65)); have HO167 := Aside0.mk (Kd.R_lower ho65 (below_size (zS HB.out))); replace BK159 := xB BK159 hb; replace BK160 := xB BK160 hb; replace BK161 := xB BK161 hb; replace BK164 := Aside0.mk (blk_below (g := gb164) (o := .cells #[.int .i64 a0_0, .int .i64 (wrap64 (a0_1 + a1_1)), .int .i64 (Go.bits .or .i64 a0_2 (ji56)), .slice none 0 0] 24 (0, 0)) (xP4 BK164.out) hb); replace HB := xS HB hb; clear hb ho65; have hnb66 := NB159_160.out; have hnc66 := NB160_159.out; have hnb67 := NB159_161.out; have hnc67 := NB161_159.out; have hnb68 := NB159_164.out; have hnc68 := NB164_159.out; have hcz69_0 : w64.cell? ⟨gb159, 0, none⟩ = some (.int .i64 a0_0) := b1 BK159 0; have hcz69_1 : w64.cell? ⟨gb159, 1, none⟩ = some (.int .i64 a0_1) := b1 BK159 1; have hcz69_2 : w64.cell? ⟨gb159, 2, none⟩ = some (.int .i64 a0_2) := b1 BK159 2; have hcz69_3 : w64.cell? ⟨gb159, 3, none⟩ = some (.slice A0_3 l0_3.length c0_3) := b1 BK159 3; have hfz69_0 := blk_frozen BK159.out 0; have hfz69_1 := blk_frozen BK159.out 1; have hfz69_2 := blk_frozen BK159.out 2; have hfz69_3 := blk_frozen BK159.out 3) | ((with_reducible refine gate_builtin (b := .append) (xs := #[.tmp 59, .tmp 61]) rfl ?_); (try (refine gate_guard (by rfl) ?_; dsimp only)); at_builtin; refine Kd.R_append_rows k68 (w0 := w) w.heap.size rfl (.tmp 59) (.tmp 61) 22 68 (.agg #[(.int .i64 0), (.int .i64 0), (.int .i64 0), (.bool false)]) 32 rfl Try.underlying22 info68 rfl (by decide) (by omega) v166 y165 l0_3 _ _ _ (fun _ => True) (fun _ => False) rfl rfl ?aO ?aR (fun _ _ h => h) (fun _ h => h.elim) ?aF ?aB ?aS ?aL ?_; (case aR => repeat (first | exact (Kd.C_below HR0_3.out HB.out) | (with_reducible refine Kd.C_alloc ?_ _) | (with_reducible refine Kd.C_drewN ?_ _) | (with_reducible refine Kd.C_drew ?_))); (case aB => exact (zS HB.out)); (case aF => exact (fun _ _ => trivial)); (case aO => exact (zR HO167.out)); (case aS => exact (below_size (zS HB.out))); (case aL => have := LMc57.out; omega); intro v169 w70 ho hb hg hat; rw [← Ny168.out] at ho; have n0_ := Aside0.mk (blk_grown (g := gb159) (o := .cells #[.int .i64 a0_0, .int .i64 a0_1, .int .i64 a0_2, .slice A0_3 l0_3.length c0_3] 24 (0, 0)) (zB BK159.out) hg (Kd.R_ne HO167.out BK159.out (by decide))); have n1_ := Aside0.mk (blk_grown (g := gb160) (o := .cells #[.int .i64 a1_0, .int .i64 a1_1, .int .i64 a1_2, .slice A1_3 l1_3.length c1_3] 24 (0, 0)) (zB BK160.out) hg (Kd.R_ne HO167.out BK160.out (by decide))); have n2_ := Aside0.mk (blk_grown (g := gb161) (o := .cells #[.int .i64 0, .int .i64 0, .int .i64 0, .slice none 0 0] 24 (0, 0)) (zB BK161.out) hg (Kd.R_ne HO167.out BK161.out (by decide))); have n3_ := Aside0.mk (blk_grown (g := gb164) (o := .cells #[.int .i64 a0_0, .int .i64 (wrap64 (a0_1 + a1_1)), .int .i64 (Go.bits .or .i64 a0_2 (ji56)), .slice none 0 0] 24 (0, 0)) (zB BK164.out) hg (Kd.R_ne HO167.out BK164.out (by decide))); have n4_ := Aside0.mk (hb); have n5_ := Aside0.mk (ho); clear BK159; clear BK160; clear BK161; clear BK164; clear HB; clear HO167; have BK159 := n0_; have BK160 := n1_; have BK161 := n2_; have BK164 := n3_; have HB := n4_; have HO170 := n5_; clear n0_ n1_ n2_ n3_ n4_ n5_; clear ho hb hg hat; obtain ⟨Ao71, co71, eo71⟩ := Kd.R_slice HO170.out; subst eo71; have hnb72 := NB164_160.out; have hnc72 := NB160_164.out; have hnb73 := NB164_161.out; have hnc73 := NB161_164.out; have hcz74_0 : w70.cell? ⟨gb164, 0, none⟩ = some (.int .i64 a0_0) := b1 BK164 0; have hcz74_1 : w70.cell? ⟨gb164, 1, none⟩ = some (.int .i64 (wrap64 (a0_1 + a1_1))) := b1 BK164 1; have hcz74_2 : w70.cell? ⟨gb164, 2, none⟩ = some (.int .i64 (Go.bits .or .i64 a0_2 (ji56))) := b1 BK164 2; have hcz74_3 : w70.cell? ⟨gb164, 3, none⟩ = some (.slice none 0 0) := b1 BK164 3; have hfz74_0 := blk_frozen BK164.out 0; have hfz74_1 := blk_frozen BK164.out 1; have hfz74_2 := blk_frozen BK164.out 2; have hfz74_3 := blk_frozen BK164.out 3))
      go_loopg [7] kj2 (fun kq v7 w' => ∃ (x7_2 : Int) (x165003_2 : List (S68)) (u165003 : Value), v7 = .int .i64 x7_2 ∧ Aside0 (spec_AutoUnion.l0 kq x7_2 a0_0 a0_1 a0_2 l0_3 a1_0 a1_1 a1_2 l1_3 a0_0 (wrap64 (a0_1 + a1_1)) (Go.bits .or .i64 a0_2 (ji56)) x165003_2 = some (r1, r2, r3, r4, r5)) ∧ Aside0 (kq ≤ kj2) ∧ Aside0 (Kd.R k68 68 w' w.heap.size (fun _ => True) u165003 x165003_2) ∧ Aside0 (w'.heap[gb159]? = some (.cells #[.int .i64 a0_0, .int .i64 a0_1, .int .i64 a0_2, (.slice A0_3 l0_3.length c0_3)] 24 (0, 0))) ∧ Aside0 (w'.heap[gb160]? = some (.cells #[.int .i64 a1_0, .int .i64 a1_1, .int .i64 a1_2, (.slice A1_3 l1_3.length c1_3)] 24 (0, 0))) ∧ Aside0 (w'.heap[gb161]? = some (.cells #[.int .i64 0, .int .i64 0, .int .i64 0, (.slice none 0 0)] 24 (0, 0))) ∧ Aside0 (w'.heap[gb164]? = some (.cells #[.int .i64 a0_0, .int .i64 (wrap64 (a0_1 + a1_1)), .int .i64 (Go.bits .or .i64 a0_2 (ji56)), u165003] 24 (0, 0))) ∧ Aside0 (Below w.heap.size w w'))
      case atStart => exact ⟨(0), (y168), (.slice Ao71 y168.length co71), (by first | rfl | (simp; done) | (simp [*]; done)), H', ⟨Nat.le_refl _⟩, ⟨by (with_reducible repeat (first | apply Kd.R_alloc | apply Kd.R_drewN | apply Kd.R_drew)); exact Kd.R_mono (Kd.R_far (p := ⟨gb164, 3, none⟩) (Kd.R_types HO170.out BK164.out (by decide)) (fun _ hk => hk.2) (.slice Ao71 y168.length co71)) (fun _ hk => trivial)⟩, ⟨zB BK159.out⟩, ⟨zB BK160.out⟩, ⟨zB BK161.out⟩, ⟨by (with_reducible repeat (first | refine blk_drewN ?_ _ | refine blk_drew ?_ | refine blk_alloc ?_ _)); refine blk_put (cs := #[.int .i64 a0_0, .int .i64 (wrap64 (a0_1 + a1_1)), .int .i64 (Go.bits .or .i64 a0_2 (ji56)), .slice none 0 0]) ?_ 3 _ rfl; (with_reducible repeat (first | refine blk_drewN ?_ _ | refine blk_drew ?_ | refine blk_alloc ?_ _)); exact BK164.out⟩, ⟨zS HB.out⟩⟩
      case round =>
       clear H'
       try clear c1
       try clear c2
       try clear p2
       try clear c3
       try clear c4
       try clear c5
       try clear c6
       try clear p6
       try clear c7
       try clear c8
       try clear c10
       try clear c11
       try clear c11b0
       try clear c11b1
       try clear c12
       try clear c12b0
       try clear c13
       try clear c14
       try clear c17
       try clear c20
       try clear c22
       try clear c23
       try clear c26
       try clear c31
       try clear c32
       try clear c34
       try clear c35
       try clear c40
       try clear c41
       try clear c44
       try clear c47
       try clear c48
       try clear c51
       try clear c52
       try clear c53
       try clear c55
       try clear c55b0
       try clear c55b1
       try clear c57
       try clear p64
       try clear c66
       try clear c67
       try clear c68
       try clear c72
       try clear c73
       try clear hcz15_0
       try clear hcz15_1
       try clear hcz15_2
       try clear hcz15_3
       try clear hcz18_0
       try clear hcz18_1
       try clear hcz18_2
       try clear hcz18_3
       try clear hcz20_0
       try clear hcz20_1
       try clear hcz20_2
       try clear hcz20_3
       try clear hcz21_0
       try clear hcz21_1
       try clear hcz21_2
       try clear hcz21_3
       try clear hcz24_0
       try clear hcz24_1
       try clear hcz24_2
       try clear hcz24_3
       try clear hcz27_0
       try clear hcz27_1
       try clear hcz27_2
       try clear hcz27_3
       try clear hcz29_0
       try clear hcz29_1
       try clear hcz29_2
       try clear hcz29_3
       try clear hcz30_0
       try clear hcz30_1
       try clear hcz30_2
       try clear hcz30_3
       try clear hcz33_0
       try clear hcz33_1
       try clear hcz33_2
       try clear hcz33_3
       try clear hcz36_0
       try clear hcz36_1
       try clear hcz36_2
       try clear hcz36_3
       try clear hcz38_0
       try clear hcz38_1
       try clear hcz38_2
       try clear hcz38_3
       try clear hcz39_0
       try clear hcz39_1
       try clear hcz39_2
       try clear hcz39_3
       try clear hcz42_0
       try clear hcz42_1
       try clear hcz42_2
       try clear hcz42_3
       try clear hcz45_0
       try clear hcz45_1
       try clear hcz45_2
       try clear hcz45_3
       try clear hcz49_0
       try clear hcz49_1
       try clear hcz49_2
       try clear hcz49_3
       try clear hcz54_0
       try clear hcz54_1
       try clear hcz54_2
       try clear hcz54_3
       try clear hcz69_0
       try clear hcz69_1
       try clear hcz69_2
       try clear hcz69_3
       try clear hcz74_0
       try clear hcz74_1
       try clear hcz74_2
       try clear hcz74_3
       try clear hfz15_0
       try clear hfz15_1
       try clear hfz15_2
       try clear hfz15_3
       try clear hfz18_0
       try clear hfz18_1
       try clear hfz18_2
       try clear hfz18_3
       try clear hfz20_0
       try clear hfz20_1
       try clear hfz20_2
       try clear hfz20_3
       try clear hfz21_0
       try clear hfz21_1
       try clear hfz21_2
       try clear hfz21_3
       try clear hfz24_0
       try clear hfz24_1
       try clear hfz24_2
       try clear hfz24_3
       try clear hfz27_0
       try clear hfz27_1
       try clear hfz27_2
       try clear hfz27_3
       try clear hfz29_0
       try clear hfz29_1
       try clear hfz29_2
       try clear hfz29_3
       try clear hfz30_0
       try clear hfz30_1
       try clear hfz30_2
       try clear hfz30_3
       try clear hfz33_0
       try clear hfz33_1
       try clear hfz33_2
       try clear hfz33_3
       try clear hfz36_0
       try clear hfz36_1
       try clear hfz36_2
       try clear hfz36_3
       try clear hfz38_0
       try clear hfz38_1
       try clear hfz38_2
       try clear hfz38_3
       try clear hfz39_0
       try clear hfz39_1
       try clear hfz39_2
       try clear hfz39_3
       try clear hfz42_0
       try clear hfz42_1
       try clear hfz42_2
       try clear hfz42_3
       try clear hfz45_0
       try clear hfz45_1
       try clear hfz45_2
       try clear hfz45_3
       try clear hfz49_0
       try clear hfz49_1
       try clear hfz49_2
       try clear hfz49_3
       try clear hfz54_0
       try clear hfz54_1
       try clear hfz54_2
       try clear hfz54_3
       try clear hfz69_0
       try clear hfz69_1
       try clear hfz69_2
       try clear hfz69_3
       try clear hfz74_0
       try clear hfz74_1
       try clear hfz74_2
       try clear hfz74_3
       try clear p2
       try clear p6
       obtain ⟨x7_2, x165003_2, u165003, rfl, HA, HK2, HO_165003, BK159, BK160, BK161, BK164, HB⟩ := hrel
       cases gk with
       | zero => exact absurd HA.out (by simp [spec_AutoUnion.l0])
       | succ k2 =>
        have H := HA.out; clear HA; simp only [spec_AutoUnion.l0] at H
        by_cases c75 : x7_2 < (l1_3.length : Int)
        ·rw [if_pos c75] at H; have c75b0 : decide (x7_2 < (l1_3.length : Int)) = true := decide_eq_true c75; clear c75
         by_cases c76 : 0 ≤ x7_2
         ·rw [if_pos c76] at H; have c76b0 : decide (0 ≤ x7_2) = true := decide_eq_true c76; clear c76
          by_cases c77 : x165003_2.length < 4398046511104
          ·rw [if_pos c77] at H; have LMc77 := Aside0.mk c77; clear c77; obtain ⟨y173, hy173⟩ : ∃ y_ : List (S68), y_ = (x165003_2 ++ [(⟨wrap64 (((rd_T68 l1_3 x7_2).f0) + a0_1), (rd_T68 l1_3 x7_2).f1, wrap64 (((rd_T68 l1_3 x7_2).f2) + a0_1), (rd_T68 l1_3 x7_2).f3⟩ : S68)]) := ⟨_, rfl⟩
           replace H : (spec_AutoUnion.l0 k2 (wrap64 (x7_2 + 1)) a0_0 a0_1 a0_2 l0_3 a1_0 a1_1 a1_2 l1_3 a0_0 (wrap64 (a0_1 + a1_1)) (Go.bits .or .i64 a0_2 (ji56)) y173) = some (r1, r2, r3, r4, r5) := by first | (rw [hy173]; with_reducible exact H) | (have H2_ := (Option.bind_some _ _).symm.trans H; rw [hy173]; with_reducible exact H2_) | (have H2_ := (Option.bind_some _ _).symm.trans H; with_reducible exact H2_) | with_reducible exact H | (rw [hy173]; exact H) | exact H
           have Ny173 := Aside0.mk hy173; clear hy173; have H' := Aside0.mk H; clear H; have hnb78 := NB160_159.out; have hnc78 := NB159_160.out; have hnb79 := NB160_161.out; have hnc79 := NB161_160.out; have hnb80 := NB160_164.out; have hnc80 := NB164_160.out; have hcz81_0 : wr.cell? ⟨gb160, 0, none⟩ = some (.int .i64 a1_0) := b1 BK160 0; have hcz81_1 : wr.cell? ⟨gb160, 1, none⟩ = some (.int .i64 a1_1) := b1 BK160 1; have hcz81_2 : wr.cell? ⟨gb160, 2, none⟩ = some (.int .i64 a1_2) := b1 BK160 2; have hcz81_3 : wr.cell? ⟨gb160, 3, none⟩ = some (.slice A1_3 l1_3.length c1_3) := b1 BK160 3; have hfz81_0 := blk_frozen BK160.out 0; have hfz81_1 := blk_frozen BK160.out 1; have hfz81_2 := blk_frozen BK160.out 2; have hfz81_3 := blk_frozen BK160.out 3; have p171 : 0 ≤ (x7_2 : Int) := of_decide_eq_true (by first | (with_reducible assumption) | assumption); have q171 : x7_2 < (l1_3.length : Int) := of_decide_eq_true (by first | (with_reducible assumption) | assumption); obtain ⟨ad171, e171, hx171_0, hx171_1, hx171_2, hx171_3⟩ := at_T68 HR1_3.out x7_2 p171 q171
           cases e171
           replace hx171_0 := (HB.out.cell (World.block_lt_of_cell? w _ hx171_0)).trans hx171_0; replace hx171_1 := (HB.out.cell (World.block_lt_of_cell? w _ hx171_1)).trans hx171_1; replace hx171_2 := (HB.out.cell (World.block_lt_of_cell? w _ hx171_2)).trans hx171_2; replace hx171_3 := (HB.out.cell (World.block_lt_of_cell? w _ hx171_3)).trans hx171_3; replace p171 := eq_true p171; replace q171 := eq_true q171
           go_upto_region 11 with (first | ((with_reducible refine gate_dst (N := 8) rfl ?_); (try (refine gate_guard (by rfl) ?_; dsimp only)); refine box_event ?hg (N := 8) ?hd (cs := #[.int .i64 0, .int .i64 0, .int .i64 0, .bool false]) (t := 68) ?hr ?_; (case hd => rfl); (case hg => rfl); (case hr => first | (go_simp; done) | (go_simp; rfl)); intro gb172 hg w82 hbox hb; replace HO_165003 := Aside0.mk (Kd.R_below (Kd.R_elderB (zR HO_165003.out) gb172 (Nat.le_of_eq hg.symm)) hb); have BK172 := Aside0.mk (hbox); have GW172 := xG HB hg; have GE172 := xG HB hg; replace HB := xS HB hb; have NB159_172 := xN BK159 hg; have NB172_159 := xM BK159 hg; replace BK159 := xB BK159 hb; have NB160_172 := xN BK160 hg; have NB172_160 := xM BK160 hg; replace BK160 := xB BK160 hb; have NB161_172 := xN BK161 hg; have NB172_161 := xM BK161 hg; replace BK161 := xB BK161 hb; have NB164_172 := xN BK164 hg; have NB172_164 := xM BK164 hg; replace BK164 := xB BK164 hb; clear hb hbox hg; have hnb83 := NB172_159.out; have hnc83 := NB159_172.out; have hnb84 := NB172_160.out; have hnc84 := NB160_172.out; have hnb85 := NB172_161.out; have hnc85 := NB161_172.out; have hnb86 := NB172_164.out; have hnc86 := NB164_172.out; have hcz87_0 : w82.cell? ⟨gb172, 0, none⟩ = some (.int .i64 0) := b1 BK172 0; have hcz87_1 : w82.cell? ⟨gb172, 1, none⟩ = some (.int .i64 0) := b1 BK172 1; have hcz87_2 : w82.cell? ⟨gb172, 2, none⟩ = some (.int .i64 0) := b1 BK172 2; have hcz87_3 : w82.cell? ⟨gb172, 3, none⟩ = some (.bool false) := b1 BK172 3; have hfz87_0 := blk_frozen BK172.out 0; have hfz87_1 := blk_frozen BK172.out 1; have hfz87_2 := blk_frozen BK172.out 2; have hfz87_3 := blk_frozen BK172.out 3; have hnb88 := NB159_161.out; have hnc88 := NB161_159.out; have hnb89 := NB159_164.out; have hnc89 := NB164_159.out; have hcz90_0 : w82.cell? ⟨gb159, 0, none⟩ = some (.int .i64 a0_0) := b1 BK159 0; have hcz90_1 : w82.cell? ⟨gb159, 1, none⟩ = some (.int .i64 a0_1) := b1 BK159 1; have hcz90_2 : w82.cell? ⟨gb159, 2, none⟩ = some (.int .i64 a0_2) := b1 BK159 2; have hcz90_3 : w82.cell? ⟨gb159, 3, none⟩ = some (.slice A0_3 l0_3.length c0_3) := b1 BK159 3; have hfz90_0 := blk_frozen BK159.out 0; have hfz90_1 := blk_frozen BK159.out 1; have hfz90_2 := blk_frozen BK159.out 2; have hfz90_3 := blk_frozen BK159.out 3; have hnb91 := NB164_161.out; have hnc91 := NB161_164.out; have hcz92_0 : w82.cell? ⟨gb164, 0, none⟩ = some (.int .i64 a0_0) := b1 BK164 0; have hcz92_1 : w82.cell? ⟨gb164, 1, none⟩ = some (.int .i64 (wrap64 (a0_1 + a1_1))) := b1 BK164 1; have hcz92_2 : w82.cell? ⟨gb164, 2, none⟩ = some (.int .i64 (Go.bits .or .i64 a0_2 (ji56))) := b1 BK164 2; have hcz92_3 : w82.cell? ⟨gb164, 3, none⟩ = some (u165003) := b1 BK164 3; have hfz92_0 := blk_frozen BK164.out 0; have hfz92_1 := blk_frozen BK164.out 1; have hfz92_2 := blk_frozen BK164.out 2; have hfz92_3 := blk_frozen BK164.out 3))
           have z0_ : Aside0 (((((((w82.setCell ⟨gb172, 0, none⟩ (.int .i64 ((rd_T68 l1_3 x7_2).f0))).setCell ⟨gb172, 1, none⟩ (.int .i64 ((rd_T68 l1_3 x7_2).f1))).setCell ⟨gb172, 2, none⟩ (.int .i64 ((rd_T68 l1_3 x7_2).f2))).setCell ⟨gb172, 3, none⟩ (.bool ((rd_T68 l1_3 x7_2).f3))).setCell ⟨gb172, 0, none⟩ (.int .i64 (wrap64 (((rd_T68 l1_3 x7_2).f0) + a0_1)))).setCell ⟨gb172, 2, none⟩ (.int .i64 (wrap64 (((rd_T68 l1_3 x7_2).f2) + a0_1)))).heap[gb159]? = some (.cells #[.int .i64 a0_0, .int .i64 a0_1, .int .i64 a0_2, .slice A0_3 l0_3.length c0_3] 24 (0, 0))) := ⟨(zB BK159.out)⟩; have z1_ : Aside0 (((((((w82.setCell ⟨gb172, 0, none⟩ (.int .i64 ((rd_T68 l1_3 x7_2).f0))).setCell ⟨gb172, 1, none⟩ (.int .i64 ((rd_T68 l1_3 x7_2).f1))).setCell ⟨gb172, 2, none⟩ (.int .i64 ((rd_T68 l1_3 x7_2).f2))).setCell ⟨gb172, 3, none⟩ (.bool ((rd_T68 l1_3 x7_2).f3))).setCell ⟨gb172, 0, none⟩ (.int .i64 (wrap64 (((rd_T68 l1_3 x7_2).f0) + a0_1)))).setCell ⟨gb172, 2, none⟩ (.int .i64 (wrap64 (((rd_T68 l1_3 x7_2).f2) + a0_1)))).heap[gb160]? = some (.cells #[.int .i64 a1_0, .int .i64 a1_1, .int .i64 a1_2, .slice (some ad171) l1_3.length c1_3] 24 (0, 0))) := ⟨(zB BK160.out)⟩; have z2_ : Aside0 (((((((w82.setCell ⟨gb172, 0, none⟩ (.int .i64 ((rd_T68 l1_3 x7_2).f0))).setCell ⟨gb172, 1, none⟩ (.int .i64 ((rd_T68 l1_3 x7_2).f1))).setCell ⟨gb172, 2, none⟩ (.int .i64 ((rd_T68 l1_3 x7_2).f2))).setCell ⟨gb172, 3, none⟩ (.bool ((rd_T68 l1_3 x7_2).f3))).setCell ⟨gb172, 0, none⟩ (.int .i64 (wrap64 (((rd_T68 l1_3 x7_2).f0) + a0_1)))).setCell ⟨gb172, 2, none⟩ (.int .i64 (wrap64 (((rd_T68 l1_3 x7_2).f2) + a0_1)))).heap[gb161]? = some (.cells #[.int .i64 0, .int .i64 0, .int .i64 0, .slice none 0 0] 24 (0, 0))) := ⟨(zB BK161.out)⟩; have z3_ : Aside0 (((((((w82.setCell ⟨gb172, 0, none⟩ (.int .i64 ((rd_T68 l1_3 x7_2).f0))).setCell ⟨gb172, 1, none⟩ (.int .i64 ((rd_T68 l1_3 x7_2).f1))).setCell ⟨gb172, 2, none⟩ (.int .i64 ((rd_T68 l1_3 x7_2).f2))).setCell ⟨gb172, 3, none⟩ (.bool ((rd_T68 l1_3 x7_2).f3))).setCell ⟨gb172, 0, none⟩ (.int .i64 (wrap64 (((rd_T68 l1_3 x7_2).f0) + a0_1)))).setCell ⟨gb172, 2, none⟩ (.int .i64 (wrap64 (((rd_T68 l1_3 x7_2).f2) + a0_1)))).heap[gb164]? = some (.cells #[.int .i64 a0_0, .int .i64 (wrap64 (a0_1 + a1_1)), .int .i64 (Go.bits .or .i64 a0_2 (ji56)), u165003] 24 (0, 0))) := ⟨(zB BK164.out)⟩
           have z4_ : Aside0 (((((((w82.setCell ⟨gb172, 0, none⟩ (.int .i64 ((rd_T68 l1_3 x7_2).f0))).setCell ⟨gb172, 1, none⟩ (.int .i64 ((rd_T68 l1_3 x7_2).f1))).setCell ⟨gb172, 2, none⟩ (.int .i64 ((rd_T68 l1_3 x7_2).f2))).setCell ⟨gb172, 3, none⟩ (.bool ((rd_T68 l1_3 x7_2).f3))).setCell ⟨gb172, 0, none⟩ (.int .i64 (wrap64 (((rd_T68 l1_3 x7_2).f0) + a0_1)))).setCell ⟨gb172, 2, none⟩ (.int .i64 (wrap64 (((rd_T68 l1_3 x7_2).f2) + a0_1)))).heap[gb172]? = some (.cells #[.int .i64 (wrap64 (((rd_T68 l1_3 x7_2).f0) + a0_1)), .int .i64 ((rd_T68 l1_3 x7_2).f1), .int .i64 (wrap64 (((rd_T68 l1_3 x7_2).f2) + a0_1)), .bool ((rd_T68 l1_3 x7_2).f3)] 68 (0, 0))) := ⟨(by (with_reducible repeat (first | refine blk_drewN ?_ _ | refine blk_drew ?_ | refine blk_alloc ?_ _)); refine blk_put (cs := #[.int .i64 (wrap64 (((rd_T68 l1_3 x7_2).f0) + a0_1)), .int .i64 ((rd_T68 l1_3 x7_2).f1), .int .i64 ((rd_T68 l1_3 x7_2).f2), .bool ((rd_T68 l1_3 x7_2).f3)]) ?_ 2 _ rfl; (with_reducible repeat (first | refine blk_drewN ?_ _ | refine blk_drew ?_ | refine blk_alloc ?_ _)); refine blk_put (cs := #[.int .i64 ((rd_T68 l1_3 x7_2).f0), .int .i64 ((rd_T68 l1_3 x7_2).f1), .int .i64 ((rd_T68 l1_3 x7_2).f2), .bool ((rd_T68 l1_3 x7_2).f3)]) ?_ 0 _ rfl; (with_reducible repeat (first | refine blk_drewN ?_ _ | refine blk_drew ?_ | refine blk_alloc ?_ _)); refine blk_put (cs := #[.int .i64 ((rd_T68 l1_3 x7_2).f0), .int .i64 ((rd_T68 l1_3 x7_2).f1), .int .i64 ((rd_T68 l1_3 x7_2).f2), .bool false]) ?_ 3 _ rfl; (with_reducible repeat (first | refine blk_drewN ?_ _ | refine blk_drew ?_ | refine blk_alloc ?_ _)); refine blk_put (cs := #[.int .i64 ((rd_T68 l1_3 x7_2).f0), .int .i64 ((rd_T68 l1_3 x7_2).f1), .int .i64 0, .bool false]) ?_ 2 _ rfl; (with_reducible repeat (first | refine blk_drewN ?_ _ | refine blk_drew ?_ | refine blk_alloc ?_ _)); refine blk_put (cs := #[.int .i64 ((rd_T68 l1_3 x7_2).f0), .int .i64 0, .int .i64 0, .bool false]) ?_ 1 _ rfl; (with_reducible repeat (first | refine blk_drewN ?_ _ | refine blk_drew ?_ | refine blk_alloc ?_ _)); refine blk_put (cs := #[.int .i64 0, .int .i64 0, .int .i64 0, .bool false]) ?_ 0 _ rfl; (with_reducible repeat (first | refine blk_drewN ?_ _ | refine blk_drew ?_ | refine blk_alloc ?_ _)); exact BK172.out)⟩; have zo_ := Aside0.mk (Kd.R_mono (Kd.R_far (p := ⟨gb172, 2, none⟩) (Kd.R_far (p := ⟨gb172, 0, none⟩) (Kd.R_far (p := ⟨gb172, 3, none⟩) (Kd.R_far (p := ⟨gb172, 2, none⟩) (Kd.R_far (p := ⟨gb172, 1, none⟩) (Kd.R_far (p := ⟨gb172, 0, none⟩) (Kd.R_mono HO_165003.out (fun k_ hk => (⟨hk, hk.2⟩ : _ ∧ k_ ≠ gb172))) (fun _ hk => hk.2) (.int .i64 ((rd_T68 l1_3 x7_2).f0))) (fun _ hk => hk.2) (.int .i64 ((rd_T68 l1_3 x7_2).f1))) (fun _ hk => hk.2) (.int .i64 ((rd_T68 l1_3 x7_2).f2))) (fun _ hk => hk.2) (.bool ((rd_T68 l1_3 x7_2).f3))) (fun _ hk => hk.2) (.int .i64 (wrap64 (((rd_T68 l1_3 x7_2).f0) + a0_1)))) (fun _ hk => hk.2) (.int .i64 (wrap64 (((rd_T68 l1_3 x7_2).f2) + a0_1)))) (fun _ hk => hk.1))
           have zb_ : Aside0 (Below w.heap.size w ((((((w82.setCell ⟨gb172, 0, none⟩ (.int .i64 ((rd_T68 l1_3 x7_2).f0))).setCell ⟨gb172, 1, none⟩ (.int .i64 ((rd_T68 l1_3 x7_2).f1))).setCell ⟨gb172, 2, none⟩ (.int .i64 ((rd_T68 l1_3 x7_2).f2))).setCell ⟨gb172, 3, none⟩ (.bool ((rd_T68 l1_3 x7_2).f3))).setCell ⟨gb172, 0, none⟩ (.int .i64 (wrap64 (((rd_T68 l1_3 x7_2).f0) + a0_1)))).setCell ⟨gb172, 2, none⟩ (.int .i64 (wrap64 (((rd_T68 l1_3 x7_2).f2) + a0_1))))) := ⟨(zS HB.out)⟩; generalize ((((((w82.setCell ⟨gb172, 0, none⟩ (.int .i64 ((rd_T68 l1_3 x7_2).f0))).setCell ⟨gb172, 1, none⟩ (.int .i64 ((rd_T68 l1_3 x7_2).f1))).setCell ⟨gb172, 2, none⟩ (.int .i64 ((rd_T68 l1_3 x7_2).f2))).setCell ⟨gb172, 3, none⟩ (.bool ((rd_T68 l1_3 x7_2).f3))).setCell ⟨gb172, 0, none⟩ (.int .i64 (wrap64 (((rd_T68 l1_3 x7_2).f0) + a0_1)))).setCell ⟨gb172, 2, none⟩ (.int .i64 (wrap64 (((rd_T68 l1_3 x7_2).f2) + a0_1)))) = wz at z0_ z1_ z2_ z3_ z4_ zo_ zb_ ⊢; clear BK159 BK160 BK161 BK164 BK172 HO_165003 HB; have BK159 := z0_; have BK160 := z1_; have BK161 := z2_; have BK164 := z3_; have BK172 := z4_; have HO_165003 := zo_; have HB := zb_; clear z0_ z1_ z2_ z3_ z4_ zo_ zb_; have hczz159_0 : wz.cell? ⟨gb159, 0, none⟩ = some (.int .i64 a0_0) := b1 BK159 0; have hfzz159_0 := blk_frozen BK159.out 0; have hczz159_1 : wz.cell? ⟨gb159, 1, none⟩ = some (.int .i64 a0_1) := b1 BK159 1; have hfzz159_1 := blk_frozen BK159.out 1; have hczz159_2 : wz.cell? ⟨gb159, 2, none⟩ = some (.int .i64 a0_2) := b1 BK159 2; have hfzz159_2 := blk_frozen BK159.out 2; have hczz159_3 : wz.cell? ⟨gb159, 3, none⟩ = some (.slice A0_3 l0_3.length c0_3) := b1 BK159 3; have hfzz159_3 := blk_frozen BK159.out 3; have hczz160_0 : wz.cell? ⟨gb160, 0, none⟩ = some (.int .i64 a1_0) := b1 BK160 0; have hfzz160_0 := blk_frozen BK160.out 0; have hczz160_1 : wz.cell? ⟨gb160, 1, none⟩ = some (.int .i64 a1_1) := b1 BK160 1; have hfzz160_1 := blk_frozen BK160.out 1; have hczz160_2 : wz.cell? ⟨gb160, 2, none⟩ = some (.int .i64 a1_2) := b1 BK160 2; have hfzz160_2 := blk_frozen BK160.out 2; have hczz160_3 : wz.cell? ⟨gb160, 3, none⟩ = some (.slice (some ad171) l1_3.length c1_3) := b1 BK160 3; have hfzz160_3 := blk_frozen BK160.out 3; have hczz161_0 : wz.cell? ⟨gb161, 0, none⟩ = some (.int .i64 0) := b1 BK161 0; have hfzz161_0 := blk_frozen BK161.out 0; have hczz161_1 : wz.cell? ⟨gb161, 1, none⟩ = some (.int .i64 0) := b1 BK161 1; have hfzz161_1 := blk_frozen BK161.out 1; have hczz161_2 : wz.cell? ⟨gb161, 2, none⟩ = some (.int .i64 0) := b1 BK161 2; have hfzz161_2 := blk_frozen BK161.out 2; have hczz161_3 : wz.cell? ⟨gb161, 3, none⟩ = some (.slice none 0 0) := b1 BK161 3; have hfzz161_3 := blk_frozen BK161.out 3; have hczz164_0 : wz.cell? ⟨gb164, 0, none⟩ = some (.int .i64 a0_0) := b1 BK164 0; have hfzz164_0 := blk_frozen BK164.out 0; have hczz164_1 : wz.cell? ⟨gb164, 1, none⟩ = some (.int .i64 (wrap64 (a0_1 + a1_1))) := b1 BK164 1; have hfzz164_1 := blk_frozen BK164.out 1
           have hczz164_2 : wz.cell? ⟨gb164, 2, none⟩ = some (.int .i64 (Go.bits .or .i64 a0_2 (ji56))) := b1 BK164 2; have hfzz164_2 := blk_frozen BK164.out 2; have hczz164_3 : wz.cell? ⟨gb164, 3, none⟩ = some (u165003) := b1 BK164 3; have hfzz164_3 := blk_frozen BK164.out 3; have hczz172_0 : wz.cell? ⟨gb172, 0, none⟩ = some (.int .i64 (wrap64 (((rd_T68 l1_3 x7_2).f0) + a0_1))) := b1 BK172 0; have hfzz172_0 := blk_frozen BK172.out 0; have hczz172_1 : wz.cell? ⟨gb172, 1, none⟩ = some (.int .i64 ((rd_T68 l1_3 x7_2).f1)) := b1 BK172 1; have hfzz172_1 := blk_frozen BK172.out 1; have hczz172_2 : wz.cell? ⟨gb172, 2, none⟩ = some (.int .i64 (wrap64 (((rd_T68 l1_3 x7_2).f2) + a0_1))) := b1 BK172 2; have hfzz172_2 := blk_frozen BK172.out 2; have hczz172_3 : wz.cell? ⟨gb172, 3, none⟩ = some (.bool ((rd_T68 l1_3 x7_2).f3)) := b1 BK172 3; have hfzz172_3 := blk_frozen BK172.out 3
           go_wp2_with (first | ((with_reducible refine gate_builtin (b := .append) (xs := #[.tmp 89, .tmp 91]) rfl ?_); (try (refine gate_guard (by rfl) ?_; dsimp only)); at_builtin; refine Kd.R_append k68 (w0 := w) w.heap.size rfl (.tmp 89) (.tmp 91) 22 68 (.agg #[(.int .i64 0), (.int .i64 0), (.int .i64 0), (.bool false)]) 32 rfl Try.underlying22 info68 rfl (by decide) (by omega) u165003 x165003_2 (⟨wrap64 (((rd_T68 l1_3 x7_2).f0) + a0_1), (rd_T68 l1_3 x7_2).f1, wrap64 (((rd_T68 l1_3 x7_2).f2) + a0_1), (rd_T68 l1_3 x7_2).f3⟩ : S68) [.int .i64 (wrap64 (((rd_T68 l1_3 x7_2).f0) + a0_1)), .int .i64 ((rd_T68 l1_3 x7_2).f1), .int .i64 (wrap64 (((rd_T68 l1_3 x7_2).f2) + a0_1)), .bool ((rd_T68 l1_3 x7_2).f3)] (fun k_ => k_ ≠ gb172) (fun _ => False) rfl (by first | (go_simp; done) | (go_simp; rfl)) ?aP (fun _ hk => hk.elim) ?aF ?aO ?aB ?aS ?aL ?_; (case aP => exact k68_mkM _ _ _ (⟨wrap64 (((rd_T68 l1_3 x7_2).f0) + a0_1), (rd_T68 l1_3 x7_2).f1, wrap64 (((rd_T68 l1_3 x7_2).f2) + a0_1), (rd_T68 l1_3 x7_2).f3⟩ : S68)); (case aB => exact HB.out); (case aF => exact (fun k_ hk => Kd.freshB (g := gb172) (o := .cells #[.int .i64 (wrap64 (((rd_T68 l1_3 x7_2).f0) + a0_1)), .int .i64 ((rd_T68 l1_3 x7_2).f1), .int .i64 (wrap64 (((rd_T68 l1_3 x7_2).f2) + a0_1)), .bool ((rd_T68 l1_3 x7_2).f3)] 68 (0, 0)) BK172.out k_ hk)); (case aO => exact Kd.R_mono HO_165003.out (fun _ hk => hk.2)); (case aS => exact (below_size HB.out)); (case aL => have := LMc77.out; omega); intro v174 w93 ho hb hg hat; rw [← Ny173.out] at ho; have n0_ := Aside0.mk (blk_grown (g := gb159) (o := .cells #[.int .i64 a0_0, .int .i64 a0_1, .int .i64 a0_2, .slice A0_3 l0_3.length c0_3] 24 (0, 0)) BK159.out hg (Kd.R_ne HO_165003.out BK159.out (by decide))); have n1_ := Aside0.mk (blk_grown (g := gb160) (o := .cells #[.int .i64 a1_0, .int .i64 a1_1, .int .i64 a1_2, .slice (some ad171) l1_3.length c1_3] 24 (0, 0)) BK160.out hg (Kd.R_ne HO_165003.out BK160.out (by decide))); have n2_ := Aside0.mk (blk_grown (g := gb161) (o := .cells #[.int .i64 0, .int .i64 0, .int .i64 0, .slice none 0 0] 24 (0, 0)) BK161.out hg (Kd.R_ne HO_165003.out BK161.out (by decide))); have n3_ := Aside0.mk (blk_grown (g := gb164) (o := .cells #[.int .i64 a0_0, .int .i64 (wrap64 (a0_1 + a1_1)), .int .i64 (Go.bits .or .i64 a0_2 (ji56)), u165003] 24 (0, 0)) BK164.out hg (Kd.R_ne HO_165003.out BK164.out (by decide))); have n4_ := Aside0.mk (blk_grown (g := gb172) (o := .cells #[.int .i64 (wrap64 (((rd_T68 l1_3 x7_2).f0) + a0_1)), .int .i64 ((rd_T68 l1_3 x7_2).f1), .int .i64 (wrap64 (((rd_T68 l1_3 x7_2).f2) + a0_1)), .bool ((rd_T68 l1_3 x7_2).f3)] 68 (0, 0)) BK172.out hg (Kd.R_away HO_165003.out (fun _ hk => hk.2))); have n5_ := Aside0.mk (hb); have n6_ := Aside0.mk (ho); clear BK159; clear BK160; clear BK161; clear BK164; clear BK172; clear HB; clear HO_165003; have BK159 := n0_; have BK160 := n1_; have BK161 := n2_; have BK164 := n3_; have BK172 := n4_; have HB := n5_; have HO175 := n6_; clear n0_ n1_ n2_ n3_ n4_ n5_ n6_; clear ho hb hg hat; obtain ⟨Ao94, co94, eo94⟩ := Kd.R_slice HO175.out; subst eo94; have hcz95_0 : w93.cell? ⟨gb164, 0, none⟩ = some (.int .i64 a0_0) := b1 BK164 0; have hcz95_1 : w93.cell? ⟨gb164, 1, none⟩ = some (.int .i64 (wrap64 (a0_1 + a1_1))) := b1 BK164 1; have hcz95_2 : w93.cell? ⟨gb164, 2, none⟩ = some (.int .i64 (Go.bits .or .i64 a0_2 (ji56))) := b1 BK164 2; have hcz95_3 : w93.cell? ⟨gb164, 3, none⟩ = some (u165003) := b1 BK164 3; have hfz95_0 := blk_frozen BK164.out 0; have hfz95_1 := blk_frozen BK164.out 1; have hfz95_2 := blk_frozen BK164.out 2; have hfz95_3 := blk_frozen BK164.out 3))
           go_roundg k2
           case measure => have := HJ2.out; have := HK2.out; omega
           case rel => exact ⟨(wrap64 (x7_2 + 1)), (y173), (.slice Ao94 y173.length co94), (by first | rfl | (simp; done) | (simp [*]; done)), H', ⟨by have := HJ2.out; have := HK2.out; omega⟩, ⟨by (with_reducible repeat (first | apply Kd.R_alloc | apply Kd.R_drewN | apply Kd.R_drew)); exact Kd.R_mono (Kd.R_far (p := ⟨gb164, 3, none⟩) (Kd.R_types HO175.out BK164.out (by decide)) (fun _ hk => hk.2) (.slice Ao94 y173.length co94)) (fun _ hk => trivial)⟩, ⟨zB BK159.out⟩, ⟨zB BK160.out⟩, ⟨zB BK161.out⟩, ⟨by (with_reducible repeat (first | refine blk_drewN ?_ _ | refine blk_drew ?_ | refine blk_alloc ?_ _)); refine blk_put (cs := #[.int .i64 a0_0, .int .i64 (wrap64 (a0_1 + a1_1)), .int .i64 (Go.bits .or .i64 a0_2 (ji56)), u165003]) ?_ 3 _ rfl; (with_reducible repeat (first | refine blk_drewN ?_ _ | refine blk_drew ?_ | refine blk_alloc ?_ _)); exact BK164.out⟩, ⟨zS HB.out⟩⟩
          ·rw [if_neg c77] at H; exact absurd H (by simp)
         ·rw [if_neg c76] at H; exact absurd H (by simp)
        ·rw [if_neg c75] at H; have c75b0 : decide (x7_2 < (l1_3.length : Int)) = false := decide_eq_false c75; clear c75; simp only [Option.some.injEq, Prod.mk.injEq] at H; obtain ⟨rfl, rfl, rfl, rfl, rfl⟩ := H; have hnb96 := NB160_159.out; have hnc96 := NB159_160.out; have hnb97 := NB160_161.out; have hnc97 := NB161_160.out; have hnb98 := NB160_164.out; have hnc98 := NB164_160.out; have hcz99_0 : wr.cell? ⟨gb160, 0, none⟩ = some (.int .i64 a1_0) := b1 BK160 0; have hcz99_1 : wr.cell? ⟨gb160, 1, none⟩ = some (.int .i64 a1_1) := b1 BK160 1; have hcz99_2 : wr.cell? ⟨gb160, 2, none⟩ = some (.int .i64 a1_2) := b1 BK160 2; have hcz99_3 : wr.cell? ⟨gb160, 3, none⟩ = some (.slice A1_3 l1_3.length c1_3) := b1 BK160 3; have hfz99_0 := blk_frozen BK160.out 0; have hfz99_1 := blk_frozen BK160.out 1; have hfz99_2 := blk_frozen BK160.out 2; have hfz99_3 := blk_frozen BK160.out 3; have hnb100 := NB164_159.out; have hnc100 := NB159_164.out; have hnb101 := NB164_161.out; have hnc101 := NB161_164.out; have hcz102_0 : wr.cell? ⟨gb164, 0, none⟩ = some (.int .i64 a0_0) := b1 BK164 0; have hcz102_1 : wr.cell? ⟨gb164, 1, none⟩ = some (.int .i64 (wrap64 (a0_1 + a1_1))) := b1 BK164 1; have hcz102_2 : wr.cell? ⟨gb164, 2, none⟩ = some (.int .i64 (Go.bits .or .i64 a0_2 (ji56))) := b1 BK164 2; have hcz102_3 : wr.cell? ⟨gb164, 3, none⟩ = some (u165003) := b1 BK164 3; have hfz102_0 := blk_frozen BK164.out 0; have hfz102_1 := blk_frozen BK164.out 1; have hfz102_2 := blk_frozen BK164.out 2; have hfz102_3 := blk_frozen BK164.out 3; have hnb103 := NB161_159.out; have hnc103 := NB159_161.out; have hcz104_0 : wr.cell? ⟨gb161, 0, none⟩ = some (.int .i64 0) := b1 BK161 0; have hcz104_1 : wr.cell? ⟨gb161, 1, none⟩ = some (.int .i64 0) := b1 BK161 1; have hcz104_2 : wr.cell? ⟨gb161, 2, none⟩ = some (.int .i64 0) := b1 BK161 2; have hcz104_3 : wr.cell? ⟨gb161, 3, none⟩ = some (.slice none 0 0) := b1 BK161 3; have hfz104_0 := blk_frozen BK161.out 0; have hfz104_1 := blk_frozen BK161.out 1; have hfz104_2 := blk_frozen BK161.out 2; have hfz104_3 := blk_frozen BK161.out 3; obtain ⟨Ao105, co105, eo105⟩ := Kd.R_slice HO_165003.out; subst eo105
         go_wp2
         refine bodyPost_ret (results_ct rfl _ _ gb161 24 #[.int .i64 a0_0, .int .i64 (wrap64 (a0_1 + a1_1)), .int .i64 (Go.bits .or .i64 a0_2 (ji56)), .slice Ao105 x165003_2.length co105] (0, 0) _ rfl (xP4 BK161.out) Try.underlying24 rfl (by kernel_rfl)) rfl ?_; exact ⟨_, by first | rfl | (simp [errW_none, errW_some] <;> rfl) | (simp only [← hji56]; first | rfl | (simp [errW_none, errW_some] <;> rfl)) | (simp [*, errW_none, errW_some] <;> rfl), by (with_reducible repeat (first | apply Kd.R_alloc | apply Kd.R_drewN | apply Kd.R_drew)); exact Kd.R_mono (Kd.R_far (p := ⟨gb161, 3, none⟩) (Kd.R_far (p := ⟨gb161, 2, none⟩) (Kd.R_far (p := ⟨gb161, 1, none⟩) (Kd.R_far (p := ⟨gb161, 0, none⟩) (Kd.R_types HO_165003.out BK161.out (by decide)) (fun _ hk => hk.2) (.int .i64 a0_0)) (fun _ hk => hk.2) (.int .i64 (wrap64 (a0_1 + a1_1)))) (fun _ hk => hk.2) (.int .i64 (Go.bits .or .i64 a0_2 (ji56)))) (fun _ hk => hk.2) (.slice Ao105 x165003_2.length co105)) (fun _ hk => trivial), by repeat (first | (with_reducible first | exact HB.out | apply below_alloc | apply pw_below_drewN | apply below_drew1 | refine below_set ?_ GE159.out | refine below_set ?_ GE160.out | refine below_set ?_ GE161.out | refine below_set ?_ GE164.out) | exact HB.out)⟩
     ·rw [if_neg c57] at H; exact absurd H (by simp)
    ·rw [if_neg c55] at H; exact absurd H (by simp)

/-! ### impl_inRange: function 69 -/
def impl_inRange.f (a0 : Int) (a1 : Int) (a2 : Int) : Option (Bool) := if a0 ≥ a1 then (some (decide (a0 ≤ a2))) else (some false)
set_option maxHeartbeats 8000000 in
set_option maxRecDepth 100000 in
theorem impl_inRange.calls (a0 : Int) (a1 : Int) (a2 : Int) (r : Bool) (w : World) (h : impl_inRange.f a0 a1 a2 = some r) :
    Calls Try.prog 69 #[.int .i64 a0, .int .i64 a1, .int .i64 a2] w fun e w' => e = .returned (.bool r) ∧ Drawn0 w w' := by
  have H : (if a0 ≥ a1 then (some (decide (a0 ≤ a2))) else (some false)) = some r := h
  clear h
  by_cases c4 : a0 ≥ a1
  · rw [if_pos c4] at H
    have c4b0 : decide (a1 ≤ a0) = true := decide_eq_true c4
    clear c4
    obtain rfl := Option.some.inj H
    go_enter Try.func69, Try.ntmps69
    go_wp2
    go_ret
    exact ⟨by first | rfl | (simp; done) | (simp [*]; done), by repeat (first | exact Drawn0.refl _ | apply Drawn0.step)⟩
  · rw [if_neg c4] at H
    have c4b0 : decide (a1 ≤ a0) = false := decide_eq_false c4
    clear c4
    obtain rfl := Option.some.inj H
    go_enter Try.func69, Try.ntmps69
    go_wp2
    go_ret
    exact ⟨by first | rfl | (simp; done) | (simp [*]; done), by repeat (first | exact Drawn0.refl _ | apply Drawn0.step)⟩

/-! ### impl_isLetters: function 59 -/
def impl_isLetters.f (a0 : Int) : Option (Bool) := (impl_inRange.f a0 1 8).bind fun t176 => (some t176)
set_option maxHeartbeats 8000000 in
set_option maxRecDepth 100000 in
theorem impl_isLetters.calls (a0 : Int) (r : Bool) (w : World) (h : impl_isLetters.f a0 = some r) :
    Calls Try.prog 59 #[.int .i64 a0] w fun e w' => e = .returned (.bool r) ∧ Drawn0 w w' := by
  have H : ((impl_inRange.f a0 1 8).bind fun t176 => (some t176)) = some r := h
  clear h
  replace H := Option.bind_eq_some_iff.mp H
  obtain ⟨t176, A20, H⟩ := H
  replace H : (some t176) = some r := H
  have A2 := Aside0.mk A20
  clear A20
  obtain rfl := Option.some.inj H
  go_enter Try.func59, Try.ntmps59
  go_wp2_with (first | ((with_reducible refine gate_callee (f := 69) rfl ?_); refine goesL_ (some 4) rfl rfl Try.func69 (by kernel_rfl) rfl #[.int .i64 a0, .int .i64 1, .int .i64 8] rfl (by (try simp only [List.map_toArray, List.map_cons, List.map_nil]); first | done | rfl | (simp only [List.length_drop, List.length_take]; rfl)) ?_; (with_reducible refine (impl_inRange.calls a0 1 8 t176 _ A2.out).mono ?_); rintro e w' ⟨rfl, ⟨nd, rfl⟩⟩; refine ⟨_, rfl, ?_⟩))
  go_ret
  exact ⟨by first | rfl | (simp; done) | (simp [*]; done), by repeat (first | exact Drawn0.refl _ | apply Drawn0.step)⟩

/-! ### impl_only: function 74 -/
def impl_only.f (a0 : Int) : Option (Int) := if 0 ≤ (IntKind.u64.wrap (a0)) then (some (shl .i64 1 (IntKind.u64.wrap (a0)))) else (none)
set_option maxHeartbeats 8000000 in
set_option maxRecDepth 100000 in
theorem impl_only.calls (a0 : Int) (r : Int) (w : World) (h : impl_only.f a0 = some r) :
    Calls Try.prog 74 #[.int .i64 a0] w fun e w' => e = .returned (.int .i64 r) ∧ Drawn0 w w' := by
  have H : (if 0 ≤ (IntKind.u64.wrap (a0)) then (some (shl .i64 1 (IntKind.u64.wrap (a0)))) else (none)) = some r := h
  clear h
  obtain ⟨ji2, hji2⟩ : ∃ j_ : Int, (IntKind.u64.wrap (a0)) = j_ := ⟨_, rfl⟩
  replace H : (if 0 ≤ (ji2) then (some (shl .i64 1 (ji2))) else (none)) = some r := by first | (rw [hji2] at H; exact H) | (simp only [hji2] at H ⊢; exact H)
  by_cases c3 : 0 ≤ (ji2)
  · rw [if_pos c3] at H
    have c3b0 := eq_true c3
    have c3b1 : decide (0 ≤ (ji2)) = true := decide_eq_true c3
    clear c3
    obtain ⟨ji4, hji4⟩ : ∃ j_ : Int, (shl .i64 1 (ji2)) = j_ := ⟨_, rfl⟩
    replace H : (some ji4) = some r := by first | (rw [hji4] at H; exact H) | (simp only [hji4] at H ⊢; exact H)
    have hji4_ : (IntKind.i64.wrap (1 * 2 ^ min (ji2).toNat 64)) = ji4 := hji4
    have hji4z : (ji2) ≤ 64 → (IntKind.i64.wrap (1 * 2 ^ (ji2).toNat)) = ji4 := shl_small hji4
    have hji4u : (IntKind.i64.wrap (2 ^ min (ji2).toNat 64)) = ji4 := by have h_ := hji4_; rw [Int.one_mul] at h_; exact h_
    have hji4v : (ji2) ≤ 64 → (IntKind.i64.wrap (2 ^ (ji2).toNat)) = ji4 := fun hle_ => by have h_ := hji4z hle_; rw [Int.one_mul] at h_; exact h_
    have hji4y : (wrap64 (1 * 2 ^ min (ji2).toNat 64)) = ji4 := (i64_w _).symm.trans hji4_
    have hji4x : (ji2) ≤ 64 → (wrap64 (1 * 2 ^ (ji2).toNat)) = ji4 := fun h_ => (i64_w _).symm.trans (hji4z h_)
    obtain rfl := Option.some.inj H
    go_enter Try.func74, Try.ntmps74
    go_wp2
    go_ret
    exact ⟨by first | rfl | (simp; done) | (simp only [← hji2, ← hji4] <;> (first | rfl | simp)) | (simp [*]; done), by repeat (first | exact Drawn0.refl _ | apply Drawn0.step)⟩
  · rw [if_neg c3] at H
    exact absurd H (by simp)

/-! ### impl_SetOk: function 78 -/
def impl_SetOk.f (a0 : Int) : Option (Bool) := (impl_inRange.f a0 0 2147483647).bind fun t177 => (some t177)
set_option maxHeartbeats 8000000 in
set_option maxRecDepth 100000 in
theorem impl_SetOk.calls (a0 : Int) (r : Bool) (w : World) (h : impl_SetOk.f a0 = some r) :
    Calls Try.prog 78 #[.int .i64 a0] w fun e w' => e = .returned (.bool r) ∧ Drawn0 w w' := by
  have H : ((impl_inRange.f a0 0 2147483647).bind fun t177 => (some t177)) = some r := h
  clear h
  replace H := Option.bind_eq_some_iff.mp H
  obtain ⟨t177, A20, H⟩ := H
  replace H : (some t177) = some r := H
  have A2 := Aside0.mk A20
  clear A20
  obtain rfl := Option.some.inj H
  go_enter Try.func78, Try.ntmps78
  go_wp2_with (first | ((with_reducible refine gate_callee (f := 69) rfl ?_); refine goesL_ (some 4) rfl rfl Try.func69 (by kernel_rfl) rfl #[.int .i64 a0, .int .i64 0, .int .i64 2147483647] rfl (by (try simp only [List.map_toArray, List.map_cons, List.map_nil]); first | done | rfl | (simp only [List.length_drop, List.length_take]; rfl)) ?_; (with_reducible refine (impl_inRange.calls a0 0 2147483647 t177 _ A2.out).mono ?_); rintro e w' ⟨rfl, ⟨nd, rfl⟩⟩; refine ⟨_, rfl, ?_⟩))
  go_ret
  exact ⟨by first | rfl | (simp; done) | (simp [*]; done), by repeat (first | exact Drawn0.refl _ | apply Drawn0.step)⟩

/-! ### impl_headOk: function 68 -/
def impl_headOk.f (a0 : Int) (a1 : Int) (a2 : Int) : Option (Bool) := (impl_isLetters.f a0).bind fun t178 => (if t178 = true then ((impl_inRange.f a1 0 31).bind fun t179 => (if t179 = true then ((impl_SetOk.f a2).bind fun t180 => (if t180 = true then ((impl_only.f a1).bind fun t181 => (some (decide (a2 < t181)))) else (some false))) else (some false))) else (some false))
set_option maxHeartbeats 8000000 in
set_option maxRecDepth 100000 in
theorem impl_headOk.calls (a0 : Int) (a1 : Int) (a2 : Int) (r : Bool) (w : World) (h : impl_headOk.f a0 a1 a2 = some r) :
    Calls Try.prog 68 #[.int .i64 a0, .int .i64 a1, .int .i64 a2] w fun e w' => e = .returned (.bool r) ∧ Drawn0 w w' := by
  have H : ((impl_isLetters.f a0).bind fun t178 => (if t178 = true then ((impl_inRange.f a1 0 31).bind fun t179 => (if t179 = true then ((impl_SetOk.f a2).bind fun t180 => (if t180 = true then ((impl_only.f a1).bind fun t181 => (some (decide (a2 < t181)))) else (some false))) else (some false))) else (some false))) = some r := h
  clear h
  replace H := Option.bind_eq_some_iff.mp H
  obtain ⟨t178, A40, H⟩ := H
  replace H : (if t178 = true then ((impl_inRange.f a1 0 31).bind fun t179 => (if t179 = true then ((impl_SetOk.f a2).bind fun t180 => (if t180 = true then ((impl_only.f a1).bind fun t181 => (some (decide (a2 < t181)))) else (some false))) else (some false))) else (some false)) = some r := H
  have A4 := Aside0.mk A40
  clear A40
  by_cases c5 : t178 = true
  · subst c5
    have H1 : ((impl_inRange.f a1 0 31).bind fun t179 => (if t179 = true then ((impl_SetOk.f a2).bind fun t180 => (if t180 = true then ((impl_only.f a1).bind fun t181 => (some (decide (a2 < t181)))) else (some false))) else (some false))) = some r := by rw [if_pos rfl] at H; exact H
    clear H
    have H := H1
    clear H1
    replace H := Option.bind_eq_some_iff.mp H
    obtain ⟨t179, A60, H⟩ := H
    replace H : (if t179 = true then ((impl_SetOk.f a2).bind fun t180 => (if t180 = true then ((impl_only.f a1).bind fun t181 => (some (decide (a2 < t181)))) else (some false))) else (some false)) = some r := H
    have A6 := Aside0.mk A60
    clear A60
    by_cases c7 : t179 = true
    · subst c7
      have H1 : ((impl_SetOk.f a2).bind fun t180 => (if t180 = true then ((impl_only.f a1).bind fun t181 => (some (decide (a2 < t181)))) else (some false))) = some r := by rw [if_pos rfl] at H; exact H
      clear H
      have H := H1
      clear H1
      replace H := Option.bind_eq_some_iff.mp H
      obtain ⟨t180, A80, H⟩ := H
      replace H : (if t180 = true then ((impl_only.f a1).bind fun t181 => (some (decide (a2 < t181)))) else (some false)) = some r := H
      have A8 := Aside0.mk A80
      clear A80
      by_cases c9 : t180 = true
      · subst c9
        have H1 : ((impl_only.f a1).bind fun t181 => (some (decide (a2 < t181)))) = some r := by rw [if_pos rfl] at H; exact H
        clear H
        have H := H1
        clear H1
        replace H := Option.bind_eq_some_iff.mp H
        obtain ⟨t181, A100, H⟩ := H
        replace H : (some (decide (a2 < t181))) = some r := H
        have A10 := Aside0.mk A100
        clear A100
        obtain rfl := Option.some.inj H
        go_enter Try.func68, Try.ntmps68
        go_wp2_with (first | ((with_reducible refine gate_callee (f := 59) rfl ?_); refine goesL_ (some 8) rfl rfl Try.func59 (by kernel_rfl) rfl #[.int .i64 a0] rfl (by (try simp only [List.map_toArray, List.map_cons, List.map_nil]); first | done | rfl | (simp only [List.length_drop, List.length_take]; rfl)) ?_; (with_reducible refine (impl_isLetters.calls a0 true _ A4.out).mono ?_); rintro e w' ⟨rfl, ⟨nd, rfl⟩⟩; refine ⟨_, rfl, ?_⟩) | (go_at_call 69; (with_reducible refine (impl_inRange.calls a1 0 31 true _ A6.out).mono ?_); rintro e w' ⟨rfl, ⟨nd, rfl⟩⟩) | (go_at_call 78; (with_reducible refine (impl_SetOk.calls a2 true _ A8.out).mono ?_); rintro e w' ⟨rfl, ⟨nd, rfl⟩⟩) | (go_at_call 74; (with_reducible refine (impl_only.calls a1 t181 _ A10.out).mono ?_); rintro e w' ⟨rfl, ⟨nd, rfl⟩⟩))
        go_ret
        exact ⟨by first | rfl | (simp; done) | (simp [*]; done), by repeat (first | exact Drawn0.refl _ | apply Drawn0.step)⟩
      · replace c9 := Bool.eq_false_iff.mpr c9
        subst c9
        have H1 : (some false) = some r := by rw [if_neg (show ¬ (false = true) by decide)] at H; exact H
        clear H
        have H := H1
        clear H1
        obtain rfl := Option.some.inj H
        go_enter Try.func68, Try.ntmps68
        go_wp2_with (first | ((with_reducible refine gate_callee (f := 59) rfl ?_); refine goesL_ (some 8) rfl rfl Try.func59 (by kernel_rfl) rfl #[.int .i64 a0] rfl (by (try simp only [List.map_toArray, List.map_cons, List.map_nil]); first | done | rfl | (simp only [List.length_drop, List.length_take]; rfl)) ?_; (with_reducible refine (impl_isLetters.calls a0 true _ A4.out).mono ?_); rintro e w' ⟨rfl, ⟨nd, rfl⟩⟩; refine ⟨_, rfl, ?_⟩) | (go_at_call 69; (with_reducible refine (impl_inRange.calls a1 0 31 true _ A6.out).mono ?_); rintro e w' ⟨rfl, ⟨nd, rfl⟩⟩) | (go_at_call 78; (with_reducible refine (impl_SetOk.calls a2 false _ A8.out).mono ?_); rintro e w' ⟨rfl, ⟨nd, rfl⟩⟩))
        go_ret
        exact ⟨by first | rfl | (simp; done) | (simp [*]; done), by repeat (first | exact Drawn0.refl _ | apply Drawn0.step)⟩
    · replace c7 := Bool.eq_false_iff.mpr c7
      subst c7
      have H1 : (some false) = some r := by rw [if_neg (show ¬ (false = true) by decide)] at H; exact H
      clear H
      have H := H1
      clear H1
      obtain rfl := Option.some.inj H
      go_enter Try.func68, Try.ntmps68
      go_wp2_with (first | ((with_reducible refine gate_callee (f := 59) rfl ?_); refine goesL_ (some 8) rfl rfl Try.func59 (by kernel_rfl) rfl #[.int .i64 a0] rfl (by (try simp only [List.map_toArray, List.map_cons, List.map_nil]); first | done | rfl | (simp only [List.length_drop, List.length_take]; rfl)) ?_; (with_reducible refine (impl_isLetters.calls a0 true _ A4.out).mono ?_); rintro e w' ⟨rfl, ⟨nd, rfl⟩⟩; refine ⟨_, rfl, ?_⟩) | (go_at_call 69; (with_reducible refine (impl_inRange.calls a1 0 31 false _ A6.out).mono ?_); rintro e w' ⟨rfl, ⟨nd, rfl⟩⟩))
      go_ret
      exact ⟨by first | rfl | (simp; done) | (simp [*]; done), by repeat (first | exact Drawn0.refl _ | apply Drawn0.step)⟩
  · replace c5 := Bool.eq_false_iff.mpr c5
    subst c5
    have H1 : (some false) = some r := by rw [if_neg (show ¬ (false = true) by decide)] at H; exact H
    clear H
    have H := H1
    clear H1
    obtain rfl := Option.some.inj H
    go_enter Try.func68, Try.ntmps68
    go_wp2_with (first | ((with_reducible refine gate_callee (f := 59) rfl ?_); refine goesL_ (some 8) rfl rfl Try.func59 (by kernel_rfl) rfl #[.int .i64 a0] rfl (by (try simp only [List.map_toArray, List.map_cons, List.map_nil]); first | done | rfl | (simp only [List.length_drop, List.length_take]; rfl)) ?_; (with_reducible refine (impl_isLetters.calls a0 false _ A4.out).mono ?_); rintro e w' ⟨rfl, ⟨nd, rfl⟩⟩; refine ⟨_, rfl, ?_⟩))
    go_ret
    exact ⟨by first | rfl | (simp; done) | (simp [*]; done), by repeat (first | exact Drawn0.refl _ | apply Drawn0.step)⟩

/-! ### cmp_Or_int: function 105 -/
def cmp_Or_int.l0 : Nat → Int → List Int → Int → Int → Option (Int)
  | 0, _, _, _, _ => none
  | k + 1, x3, x6, x7, x8 => if x8 < x7 then (if 0 ≤ x8 then (if x8 < (x6.length : Int) then (if (rd x6 x8) = x3 then (cmp_Or_int.l0 k x3 x6 x7 (wrap64 (x8 + 1))) else (some (rd x6 x8))) else (none)) else (none)) else (some x3)
def cmp_Or_int.f (k : Nat) (l0 : List Int) : Option (Int) := cmp_Or_int.l0 k 0 l0 (l0.length : Int) 0
theorem cmp_Or_int.mono_l : ∀ k, (∀ y0 y1 y2 y3, LeO (cmp_Or_int.l0 k y0 y1 y2 y3) (cmp_Or_int.l0 (k + 1) y0 y1 y2 y3))
  | 0 => fun _ _ _ _ r h => by simp [cmp_Or_int.l0] at h
  | k + 1 => by
    have ih0 := cmp_Or_int.mono_l k
    · intro y0 y1 y2 y3
      unfold cmp_Or_int.l0
      repeat' first
      | (with_reducible exact ih0 _ _ _ _)
      | (with_reducible exact LeO.refl _)
      | (with_reducible exact LeO.none _)
      | (with_reducible refine LeO.ite ?_ ?_)
      | (with_reducible refine LeO.bind ?_ (fun _ => ?_))
      | exact ih0 _ _ _ _
      | exact LeO.none _
      | refine LeO.ite ?_ ?_
      | refine LeO.bind ?_ (fun _ => ?_)
theorem cmp_Or_int.mono : ∀ a0 k, LeO (cmp_Or_int.f k a0) (cmp_Or_int.f (k + 1) a0) := by
  intro a0 k
  have ih0 := cmp_Or_int.mono_l k
  unfold cmp_Or_int.f
  repeat' first
      | (with_reducible exact ih0 _ _ _ _)
      | (with_reducible exact LeO.refl _)
      | (with_reducible exact LeO.none _)
      | (with_reducible refine LeO.ite ?_ ?_)
      | (with_reducible refine LeO.bind ?_ (fun _ => ?_))
      | exact ih0 _ _ _ _
      | exact LeO.none _
      | refine LeO.ite ?_ ?_
      | refine LeO.bind ?_ (fun _ => ?_)
set_option maxHeartbeats 8000000 in
set_option maxRecDepth 100000 in
theorem cmp_Or_int.calls (k : Nat) (A0 : Option Addr) (c0 : Nat) (l0 : List Int) (r : Int) (w : World) (hr0 : Kd.C (Kd.int .i64) w A0 l0.length l0) (hc0 : l0.length ≤ c0) (h : cmp_Or_int.f k l0 = some r) :
    Calls Try.prog 105 #[.slice A0 l0.length c0] w fun e w' => e = .returned (.int .i64 r) ∧ Drawn0 w w' := by
  have HR0 := Aside0.mk hr0
  have HC0 := Aside0.mk hc0
  clear hr0 hc0
  have H : (cmp_Or_int.l0 k 0 l0 (l0.length : Int) 0) = some r := h
  clear h
  have H' := Aside0.mk H
  clear H
  go_enter Try.func105, Try.ntmps105
  go_wp2
  go_loopg [8] k (fun kq v8 w' => ∃ (x8_1 : Int), v8 = .int .i64 x8_1 ∧ Aside0 (cmp_Or_int.l0 kq 0 l0 (l0.length : Int) x8_1 = some r) ∧ Aside0 (kq ≤ k) ∧ Drawn0 w w')
  case atStart => exact ⟨(0), (by first | rfl | (simp; done) | (simp [*]; done)), H', ⟨Nat.le_refl _⟩, by repeat (first | exact Drawn0.refl _ | apply Drawn0.step)⟩
  case round =>
    clear H'
    try clear c1
    obtain ⟨x8_1, rfl, HA, HK1, ⟨m1, rfl⟩⟩ := hrel
    cases gk with
    | zero => exact absurd HA.out (by simp [cmp_Or_int.l0])
    | succ k1 =>
      have H := HA.out
      clear HA
      simp only [cmp_Or_int.l0] at H
      by_cases c2 : x8_1 < (l0.length : Int)
      · rw [if_pos c2] at H
        have c2b0 : decide (x8_1 < (l0.length : Int)) = true := decide_eq_true c2
        clear c2
        by_cases c3 : 0 ≤ x8_1
        · rw [if_pos c3] at H
          have c3b0 : decide (0 ≤ x8_1) = true := decide_eq_true c3
          clear c3
          by_cases c4 : x8_1 < (l0.length : Int)
          · rw [if_pos c4] at H
            have c4b0 : decide (x8_1 < (l0.length : Int)) = true := decide_eq_true c4
            clear c4
            by_cases c5 : (rd l0 x8_1) = 0
            · rw [if_pos c5] at H
              have c5b0 : ((rd l0 x8_1) == 0) = true := beq_iff_eq.mpr c5
              have c5b1 : ((rd l0 x8_1) != 0) = false := bne_eq_false_iff_eq.mpr c5
              clear c5
              have H' := Aside0.mk H
              clear H
              have p182 : 0 ≤ (x8_1 : Int) := of_decide_eq_true (by first | (with_reducible assumption) | assumption)
              have q182 : x8_1 < (l0.length : Int) := of_decide_eq_true (by first | (with_reducible assumption) | assumption)
              obtain ⟨ad182, e182, hx182_0⟩ := Kd.at_int HR0.out x8_1 p182 q182
              cases e182
              replace p182 := eq_true p182
              replace q182 := eq_true q182
              go_wp2
              go_roundg k1
              case measure => have := HK1.out; omega
              case rel => exact ⟨(wrap64 (x8_1 + 1)), (by first | rfl | (simp; done) | (simp [*]; done)), H', ⟨by have := HK1.out; omega⟩, by repeat (first | exact Drawn0.refl _ | apply Drawn0.step)⟩
            · rw [if_neg c5] at H
              have c5b0 : ((rd l0 x8_1) == 0) = false := beq_eq_false_iff_ne.mpr c5
              have c5b1 : ((rd l0 x8_1) != 0) = true := bne_iff_ne.mpr c5
              obtain rfl := Option.some.inj H
              have p182 : 0 ≤ (x8_1 : Int) := of_decide_eq_true (by first | (with_reducible assumption) | assumption)
              have q182 : x8_1 < (l0.length : Int) := of_decide_eq_true (by first | (with_reducible assumption) | assumption)
              obtain ⟨ad182, e182, hx182_0⟩ := Kd.at_int HR0.out x8_1 p182 q182
              cases e182
              replace p182 := eq_true p182
              replace q182 := eq_true q182
              go_wp2
              go_ret
              exact ⟨by first | rfl | (simp; done) | (simp [*]; done), by repeat (first | exact Drawn0.refl _ | apply Drawn0.step)⟩
          · rw [if_neg c4] at H
            exact absurd H (by simp)
        · rw [if_neg c3] at H
          exact absurd H (by simp)
      · rw [if_neg c2] at H
        have c2b0 : decide (x8_1 < (l0.length : Int)) = false := decide_eq_false c2
        clear c2
        obtain rfl := Option.some.inj H
        go_wp2
        go_ret
        exact ⟨by first | rfl | (simp; done) | (simp [*]; done), by repeat (first | exact Drawn0.refl _ | apply Drawn0.step)⟩

/-! ### cmp_isNaN_int: function 118 -/
def cmp_isNaN_int.f (a0 : Int) : Option (Bool) := some (a0 != a0)
set_option maxHeartbeats 8000000 in
set_option maxRecDepth 100000 in
theorem cmp_isNaN_int.calls (a0 : Int) (r : Bool) (w : World) (h : cmp_isNaN_int.f a0 = some r) :
    Calls Try.prog 118 #[.int .i64 a0] w fun e w' => e = .returned (.bool r) ∧ Drawn0 w w' := by
  have H : (some (a0 != a0)) = some r := h
  clear h
  obtain rfl := Option.some.inj H
  go_enter Try.func118, Try.ntmps118
  go_wp2
  go_ret
  exact ⟨by first | rfl | (simp; done) | (simp [*]; done), by repeat (first | exact Drawn0.refl _ | apply Drawn0.step)⟩

end Go.Proofs.Ytlallflpicgcmaa.MFnExactAutoUnion
