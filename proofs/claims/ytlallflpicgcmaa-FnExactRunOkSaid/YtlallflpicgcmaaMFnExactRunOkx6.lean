-- Written by a program of this session, out of Lean's print of the translation. Not trusted: Lean checks it.
import Derived.Test.YtlallflpicgcmaaMFnExactRunOkx0
import Derived.Test.YtlallflpicgcmaaMFnExactRunOkx5
namespace Go.Proofs.Ytlallflpicgcmaa.MFnExactRunOk
open Go.RowKit Go.Proofs.YtlallflpicgcmaaW.PrintWords Go.Proofs.YtlallflpicgcmaaW.PrintLast Go.Proofs.YtlallflpicgcmaaW.PrintMore Go.Proofs.Ytlallflpicgcmaa.Short4
attribute [local go_sem] max2_int min2_int max_two min_two max_three min_three max_four min_four   -- for this text's walks alone
set_option linter.unusedVariables false
set_option linter.unusedSimpArgs false

section
open Go.Proofs.Ytlallflpicgcmaa.Short2.T
abbrev impl_AutoOk.bl0 : Array Bool := #[f, f, f, f, f, f, f, f, f, f, f, f, f]
abbrev impl_AutoOk.bl1 : Array Bool := #[t, f, f, f, f, f, f, f, f, f, f, f, f]
abbrev impl_AutoOk.bl2 : Array Bool := #[t, t, f, f, f, f, f, f, f, f, f, f, f]
abbrev impl_AutoOk.bl3 : Array Bool := #[t, t, t, f, f, f, f, f, f, f, f, f, f]
abbrev impl_AutoOk.bl4 : Array Bool := #[t, t, t, t, f, f, f, f, f, f, f, f, f]
abbrev impl_AutoOk.bl5 : Array Bool := #[t, t, t, t, f, t, f, f, f, f, f, f, f]
abbrev impl_AutoOk.bl6 : Array Bool := #[t, t, t, t, f, t, t, f, f, f, f, f, f]
abbrev impl_AutoOk.bl7 : Array Bool := #[t, t, t, t, t, t, t, f, f, f, f, f, f]
abbrev impl_AutoOk.bl8 : Array Bool := #[t, t, t, t, t, t, t, t, f, f, f, f, f]
abbrev impl_AutoOk.bl9 : Array Bool := #[t, t, t, t, t, t, t, t, t, f, f, f, f]
abbrev impl_AutoOk.bl10 : Array Bool := #[t, t, t, t, t, t, t, t, t, t, f, f, f]
abbrev impl_AutoOk.bl11 : Array Bool := #[t, t, t, t, t, t, t, t, t, t, t, f, f]
abbrev impl_AutoOk.bl12 : Array Bool := #[t, t, t, t, t, t, t, t, t, t, t, t, f]
abbrev impl_AutoOk.bl13 : Array Bool := #[t, t, t, t, t, t, t, t, t, t, t, t, t]
abbrev impl_AutoOk.bl14 : Array Bool := #[t, t, t, t, t, f, f, f, f, f, f, f, f]
abbrev impl_AutoOk.bl15 : Array Bool := #[t, t, t, t, t, t, f, f, f, f, f, f, f]
end
/-! ### impl_AutoOk: function 22 -/
mutual
def impl_AutoOk.j0 : Nat → Bool → Int → Int → Int → List (S68) → Option (Bool)
 | 0, _, _, _, _, _ => none
 | k + 1, x18, x218000, x218001, x218002, x218003 => if x18 = true then (some false) else (impl_AutoOk.l0 k x218003 (x218003.length : Int) 0 x218000 x218001 x218002 x218003)
def impl_AutoOk.l0 : Nat → List (S68) → Int → Int → Int → Int → Int → List (S68) → Option (Bool)
 | 0, _, _, _, _, _, _, _ => none
 | k + 1, x20, x21, x22, x218000, x218001, x218002, x218003 => if x22 < x21 then (if 0 ≤ x22 then (if x22 < (x20.length : Int) then ((impl_inRange.f ((rd_T68 x20 x22).f0) 0 (wrap64 (x218001 - 1))).bind fun t221 => (if t221 = true then ((impl_inRange.f ((rd_T68 x20 x22).f2) 0 (wrap64 (x218001 - 1))).bind fun t222 => (if t222 = true then ((impl_inRange.f ((rd_T68 x20 x22).f1) 0 (wrap64 (x218000 - 1))).bind fun t223 => (impl_AutoOk.j2 k x22 x20 x21 x22 (!t223) x218000 x218001 x218002 x218003 ((rd_T68 x20 x22).f0) ((rd_T68 x20 x22).f1) ((rd_T68 x20 x22).f2) ((rd_T68 x20 x22).f3))) else (impl_AutoOk.j2 k x22 x20 x21 x22 true x218000 x218001 x218002 x218003 ((rd_T68 x20 x22).f0) ((rd_T68 x20 x22).f1) ((rd_T68 x20 x22).f2) ((rd_T68 x20 x22).f3)))) else (impl_AutoOk.j2 k x22 x20 x21 x22 true x218000 x218001 x218002 x218003 ((rd_T68 x20 x22).f0) ((rd_T68 x20 x22).f1) ((rd_T68 x20 x22).f2) ((rd_T68 x20 x22).f3)))) else (none)) else (none)) else (some true)
def impl_AutoOk.j2 : Nat → Int → List (S68) → Int → Int → Bool → Int → Int → Int → List (S68) → Int → Int → Int → Bool → Option (Bool)
 | 0, _, _, _, _, _, _, _, _, _, _, _, _, _ => none
 | k + 1, x3, x20, x21, x22, x51, x218000, x218001, x218002, x218003, x221000, x221001, x221002, x221003 => if x51 = true then (some false) else (if x3 > 0 then (if 0 ≤ (wrap64 (x3 - 1)) then (if (wrap64 (x3 - 1)) < (x218003.length : Int) then ((impl_compareEdges.f k ((rd_T68 x218003 (wrap64 (x3 - 1))).f0) ((rd_T68 x218003 (wrap64 (x3 - 1))).f1) ((rd_T68 x218003 (wrap64 (x3 - 1))).f2) ((rd_T68 x218003 (wrap64 (x3 - 1))).f3) x221000 x221001 x221002 x221003).bind fun t225 => (if t225 ≥ 0 then (some false) else (impl_AutoOk.l0 k x20 x21 (wrap64 (x22 + 1)) x218000 x218001 x218002 x218003))) else (none)) else (none)) else (impl_AutoOk.l0 k x20 x21 (wrap64 (x22 + 1)) x218000 x218001 x218002 x218003))
end
def impl_AutoOk.f (k : Nat) (a0_0 : Int) (a0_1 : Int) (a0_2 : Int) (l0_3 : List (S68)) : Option (Bool) := (impl_headOk.f a0_0 a0_1 a0_2).bind fun t218 => (if t218 = true then (impl_AutoOk.j0 k (decide ((l0_3.length : Int) > 2000)) a0_0 a0_1 a0_2 l0_3) else (impl_AutoOk.j0 k true a0_0 a0_1 a0_2 l0_3))
theorem impl_AutoOk.mono_l : ∀ k, (∀ y0 y1 y2 y3 y4, LeO (impl_AutoOk.j0 k y0 y1 y2 y3 y4) (impl_AutoOk.j0 (k + 1) y0 y1 y2 y3 y4)) ∧ (∀ y0 y1 y2 y3 y4 y5 y6, LeO (impl_AutoOk.l0 k y0 y1 y2 y3 y4 y5 y6) (impl_AutoOk.l0 (k + 1) y0 y1 y2 y3 y4 y5 y6)) ∧ (∀ y0 y1 y2 y3 y4 y5 y6 y7 y8 y9 y10 y11 y12, LeO (impl_AutoOk.j2 k y0 y1 y2 y3 y4 y5 y6 y7 y8 y9 y10 y11 y12) (impl_AutoOk.j2 (k + 1) y0 y1 y2 y3 y4 y5 y6 y7 y8 y9 y10 y11 y12))
 | 0 => ⟨fun _ _ _ _ _ r h => by simp [impl_AutoOk.j0] at h, fun _ _ _ _ _ _ _ r h => by simp [impl_AutoOk.l0] at h, fun _ _ _ _ _ _ _ _ _ _ _ _ _ r h => by simp [impl_AutoOk.j2] at h⟩
 | k + 1 => by
  obtain ⟨ih0, ih1, ih2⟩ := impl_AutoOk.mono_l k
  refine ⟨?_, ?_, ?_⟩
  ·intro y0 y1 y2 y3 y4
   unfold impl_AutoOk.j0
   repeat' first
   | (with_reducible exact ih0 _ _ _ _ _)
   | (with_reducible exact ih1 _ _ _ _ _ _ _)
   | (with_reducible exact ih2 _ _ _ _ _ _ _ _ _ _ _ _ _)
   | (with_reducible exact impl_compareEdges.mono _ _ _ _ _ _ _ _ _)
   | (with_reducible exact LeO.refl _)
   | (with_reducible exact LeO.none _)
   | (with_reducible refine LeO.ite ?_ ?_)
   | (with_reducible refine LeO.bind ?_ (fun _ => ?_))
   | exact ih0 _ _ _ _ _
   | exact ih1 _ _ _ _ _ _ _
   | exact ih2 _ _ _ _ _ _ _ _ _ _ _ _ _
   | exact impl_compareEdges.mono _ _ _ _ _ _ _ _ _
   | exact LeO.none _
   | refine LeO.ite ?_ ?_
   | refine LeO.bind ?_ (fun _ => ?_)
  ·intro y0 y1 y2 y3 y4 y5 y6
   unfold impl_AutoOk.l0
   repeat' first
   | (with_reducible exact ih0 _ _ _ _ _)
   | (with_reducible exact ih1 _ _ _ _ _ _ _)
   | (with_reducible exact ih2 _ _ _ _ _ _ _ _ _ _ _ _ _)
   | (with_reducible exact impl_compareEdges.mono _ _ _ _ _ _ _ _ _)
   | (with_reducible exact LeO.refl _)
   | (with_reducible exact LeO.none _)
   | (with_reducible refine LeO.ite ?_ ?_)
   | (with_reducible refine LeO.bind ?_ (fun _ => ?_))
   | exact ih0 _ _ _ _ _
   | exact ih1 _ _ _ _ _ _ _
   | exact ih2 _ _ _ _ _ _ _ _ _ _ _ _ _
   | exact impl_compareEdges.mono _ _ _ _ _ _ _ _ _
   | exact LeO.none _
   | refine LeO.ite ?_ ?_
   | refine LeO.bind ?_ (fun _ => ?_)
  ·intro y0 y1 y2 y3 y4 y5 y6 y7 y8 y9 y10 y11 y12
   unfold impl_AutoOk.j2
   repeat' first
   | (with_reducible exact ih0 _ _ _ _ _)
   | (with_reducible exact ih1 _ _ _ _ _ _ _)
   | (with_reducible exact ih2 _ _ _ _ _ _ _ _ _ _ _ _ _)
   | (with_reducible exact impl_compareEdges.mono _ _ _ _ _ _ _ _ _)
   | (with_reducible exact LeO.refl _)
   | (with_reducible exact LeO.none _)
   | (with_reducible refine LeO.ite ?_ ?_)
   | (with_reducible refine LeO.bind ?_ (fun _ => ?_))
   | exact ih0 _ _ _ _ _
   | exact ih1 _ _ _ _ _ _ _
   | exact ih2 _ _ _ _ _ _ _ _ _ _ _ _ _
   | exact impl_compareEdges.mono _ _ _ _ _ _ _ _ _
   | exact LeO.none _
   | refine LeO.ite ?_ ?_
   | refine LeO.bind ?_ (fun _ => ?_)
theorem impl_AutoOk.mono : ∀ a0 a1 a2 a3 k, LeO (impl_AutoOk.f k a0 a1 a2 a3) (impl_AutoOk.f (k + 1) a0 a1 a2 a3) := by
 intro a0 a1 a2 a3 k
 obtain ⟨ih0, ih1, ih2⟩ := impl_AutoOk.mono_l k
 unfold impl_AutoOk.f
 repeat' first
   | (with_reducible exact ih0 _ _ _ _ _)
   | (with_reducible exact ih1 _ _ _ _ _ _ _)
   | (with_reducible exact ih2 _ _ _ _ _ _ _ _ _ _ _ _ _)
   | (with_reducible exact impl_compareEdges.mono _ _ _ _ _ _ _ _ _)
   | (with_reducible exact LeO.refl _)
   | (with_reducible exact LeO.none _)
   | (with_reducible refine LeO.ite ?_ ?_)
   | (with_reducible refine LeO.bind ?_ (fun _ => ?_))
   | exact ih0 _ _ _ _ _
   | exact ih1 _ _ _ _ _ _ _
   | exact ih2 _ _ _ _ _ _ _ _ _ _ _ _ _
   | exact impl_compareEdges.mono _ _ _ _ _ _ _ _ _
   | exact LeO.none _
   | refine LeO.ite ?_ ?_
   | refine LeO.bind ?_ (fun _ => ?_)
def impl_AutoOk.T8 : Bool × List (List Nat × List Nat) := (true, [([], []), ([0], [0]), ([1], [1]), ([2], [2]), ([3, 2], [2, 3]), ([2], [2]), ([5, 2], [2, 5]), ([4, 6, 2], [2, 4, 6]), ([7, 2], [2, 7]), ([2], [2]), ([8, 9, 2, 2], [2, 8, 9]), ([10, 2], [2, 10]), ([2, 11], [2, 11])])
def impl_AutoOk.B8 : List Nat := [0, 1, 3, 7, 15, 7, 39, 127, 255, 7, 1023, 2047, 4095]
theorem impl_AutoOk.tab8 : rtab .any (opsOf Try.f22 8) = impl_AutoOk.T8 := by kernel_rfl
theorem impl_AutoOk.bits8 : waitsOk impl_AutoOk.T8.2 impl_AutoOk.B8 = true := by kernel_rfl
open Go.Proofs.Ytlallflpicgcmaa.Short2 in
set_option maxHeartbeats 8000000 in
set_option maxRecDepth 100000 in
theorem impl_AutoOk.calls (k : Nat) (a0_0 : Int) (a0_1 : Int) (a0_2 : Int) (A0_3 : Option Addr) (c0_3 : Nat) (l0_3 : List (S68)) (r : Bool) (w : World) (hr0_3 : Kd.C k68 w A0_3 l0_3.length l0_3) (hc0_3 : l0_3.length ≤ c0_3) (h : impl_AutoOk.f k a0_0 a0_1 a0_2 l0_3 = some r) :
  Calls Try.prog 22 #[.agg #[.int .i64 a0_0, .int .i64 a0_1, .int .i64 a0_2, .slice A0_3 l0_3.length c0_3]] w fun e w' => e = .returned (.bool r) ∧ Below w.heap.size w w' := by
 have hu24 := Try.underlying24; have hu68 := Try.underlying68; have HR0_3 := Aside0.mk hr0_3; have HC0_3 := Aside0.mk hc0_3; clear hr0_3 hc0_3; have HB := Aside0.mk (Below.refl w.heap.size w); have H : ((impl_headOk.f a0_0 a0_1 a0_2).bind fun t218 => (if t218 = true then (impl_AutoOk.j0 k (decide ((l0_3.length : Int) > 2000)) a0_0 a0_1 a0_2 l0_3) else (impl_AutoOk.j0 k true a0_0 a0_1 a0_2 l0_3))) = some r := h; clear h; have HC2 := Aside0.mk H; clear H
 go_enter Try.func22, Try.ntmps22
 go_upto_region 1 with (first | ((with_reducible refine gate_dst (N := 1) rfl ?_); (try (refine gate_guard (by rfl) ?_; dsimp only)); refine box_event ?hg (N := 1) ?hd (cs := #[.int .i64 a0_0, .int .i64 a0_1, .int .i64 a0_2, .slice A0_3 l0_3.length c0_3]) (t := 24) ?hr ?_; (case hd => rfl); (case hg => rfl); (case hr => first | (go_simp; done) | (go_simp; rfl)); intro gb217 hg w3 hbox hb; have BK217 := Aside0.mk (hbox); have GW217 := xG HB hg; have GE217 := xG HB hg; replace HB := xS HB hb; clear hb hbox hg))
 (try simp only [Act.put, q3])
 go_cut [18] (fun v18 wc => ∃ (kq : Nat) (x18_1 : Bool), v18 = .bool x18_1 ∧ Aside0 (impl_AutoOk.j0 kq x18_1 a0_0 a0_1 a0_2 l0_3 = some r) ∧ Aside0 (kq ≤ k) ∧ Aside0 (wc.heap[gb217]? = some (.cells #[.int .i64 a0_0, .int .i64 a0_1, .int .i64 a0_2, (.slice A0_3 l0_3.length c0_3)] 24 (0, 0))) ∧ Aside0 (Below w.heap.size w wc))
 case first =>
  have H := HC2.out; clear HC2; replace H := Option.bind_eq_some_iff.mp H; obtain ⟨t218, A40, H⟩ := H; replace H : (if t218 = true then (impl_AutoOk.j0 k (decide ((l0_3.length : Int) > 2000)) a0_0 a0_1 a0_2 l0_3) else (impl_AutoOk.j0 k true a0_0 a0_1 a0_2 l0_3)) = some r := H; have A4 := Aside0.mk A40; clear A40
  by_cases c5 : t218 = true
  ·subst c5
   have H1 : (impl_AutoOk.j0 k (decide ((l0_3.length : Int) > 2000)) a0_0 a0_1 a0_2 l0_3) = some r := by rw [if_pos rfl] at H; exact H
   clear H; have H := H1; clear H1; have H' := Aside0.mk H; clear H; have hcz6_0 : w3.cell? ⟨gb217, 0, none⟩ = some (.int .i64 a0_0) := b1 BK217 0; have hcz6_1 : w3.cell? ⟨gb217, 1, none⟩ = some (.int .i64 a0_1) := b1 BK217 1; have hcz6_2 : w3.cell? ⟨gb217, 2, none⟩ = some (.int .i64 a0_2) := b1 BK217 2; have hcz6_3 : w3.cell? ⟨gb217, 3, none⟩ = some (.slice A0_3 l0_3.length c0_3) := b1 BK217 3; have hfz6_0 := blk_frozen BK217.out 0; have hfz6_1 := blk_frozen BK217.out 1; have hfz6_2 := blk_frozen BK217.out 2; have hfz6_3 := blk_frozen BK217.out 3
   go_wp2_with (first | ((with_reducible refine gate_callee (f := 68) rfl ?_); refine goesL_ (some 11) rfl rfl Try.func68 (by kernel_rfl) rfl #[.int .i64 a0_0, .int .i64 a0_1, .int .i64 a0_2] rfl (by (try simp only [m3]); first | done | rfl | (simp only [d2]; rfl)) ?_; (with_reducible refine (impl_headOk.calls a0_0 a0_1 a0_2 true _ A4.out).mono ?_); rintro e w' ⟨rfl, ⟨nd, rfl⟩⟩; refine ⟨_, rfl, ?_⟩))
   go_meet
   case rel => exact ⟨_, (decide ((l0_3.length : Int) > 2000)), (by first | rfl | (simp; done) | (simp [*]; done) | (rw [Int.tmod_eq_emod_of_nonneg (Int.natCast_nonneg _)]; done)), H', ⟨by first | omega | exact Nat.le_refl _⟩, ⟨zB BK217.out⟩, ⟨zS HB.out⟩⟩
  ·replace c5 := Bool.eq_false_iff.mpr c5; subst c5
   have H1 : (impl_AutoOk.j0 k true a0_0 a0_1 a0_2 l0_3) = some r := by rw [if_neg (show ¬ (false = true) by decide)] at H; exact H
   clear H; have H := H1; clear H1; have H' := Aside0.mk H; clear H; have hcz7_0 : w3.cell? ⟨gb217, 0, none⟩ = some (.int .i64 a0_0) := b1 BK217 0; have hcz7_1 : w3.cell? ⟨gb217, 1, none⟩ = some (.int .i64 a0_1) := b1 BK217 1; have hcz7_2 : w3.cell? ⟨gb217, 2, none⟩ = some (.int .i64 a0_2) := b1 BK217 2; have hcz7_3 : w3.cell? ⟨gb217, 3, none⟩ = some (.slice A0_3 l0_3.length c0_3) := b1 BK217 3; have hfz7_0 := blk_frozen BK217.out 0; have hfz7_1 := blk_frozen BK217.out 1; have hfz7_2 := blk_frozen BK217.out 2; have hfz7_3 := blk_frozen BK217.out 3
   go_wp2_with (first | ((with_reducible refine gate_callee (f := 68) rfl ?_); refine goesL_ (some 11) rfl rfl Try.func68 (by kernel_rfl) rfl #[.int .i64 a0_0, .int .i64 a0_1, .int .i64 a0_2] rfl (by (try simp only [m3]); first | done | rfl | (simp only [d2]; rfl)) ?_; (with_reducible refine (impl_headOk.calls a0_0 a0_1 a0_2 false _ A4.out).mono ?_); rintro e w' ⟨rfl, ⟨nd, rfl⟩⟩; refine ⟨_, rfl, ?_⟩))
   go_meet
   case rel => exact ⟨_, (true), (by first | rfl | (simp; done) | (simp [*]; done) | (rw [Int.tmod_eq_emod_of_nonneg (Int.natCast_nonneg _)]; done)), H', ⟨by first | omega | exact Nat.le_refl _⟩, ⟨zB BK217.out⟩, ⟨zS HB.out⟩⟩
 case rest =>
  clear HC2
  try clear c2
  try clear p2
  try clear c5
  try clear c6
  try clear hcz6_0
  try clear hcz6_1
  try clear hcz6_2
  try clear hcz6_3
  try clear hcz7_0
  try clear hcz7_1
  try clear hcz7_2
  try clear hcz7_3
  try clear hfz6_0
  try clear hfz6_1
  try clear hfz6_2
  try clear hfz6_3
  try clear hfz7_0
  try clear hfz7_1
  try clear hfz7_2
  try clear hfz7_3
  obtain ⟨kq, x18_1, rfl, HA, HJ1, BK217, HB⟩ := hcut
  cases kq with
  | zero => exact absurd HA.out (by simp [impl_AutoOk.j0])
  | succ kj1 =>
   have H := HA.out; clear HA; simp only [impl_AutoOk.j0] at H
   by_cases c8 : x18_1 = true
   ·subst c8
    have H1 : (some false) = some r := by rw [if_pos rfl] at H; exact H
    clear H; have H := H1; clear H1; obtain rfl := Option.some.inj H
    go_wp2
    go_ret; exact ⟨by first | rfl | (simp [errW_none, errW_some] <;> rfl) | (simp [*, errW_none, errW_some] <;> rfl), by repeat (first | (with_reducible first | exact HB.out | apply below_alloc | apply pw_below_drewN | apply below_drew1 | refine below_set ?_ GE217.out) | exact HB.out)⟩
   ·replace c8 := Bool.eq_false_iff.mpr c8; subst c8
    have H1 : (impl_AutoOk.l0 kj1 l0_3 (l0_3.length : Int) 0 a0_0 a0_1 a0_2 l0_3) = some r := by rw [if_neg (show ¬ (false = true) by decide)] at H; exact H
    clear H; have H := H1; clear H1; have H' := Aside0.mk H; clear H; have hcz9_0 : wc.cell? ⟨gb217, 0, none⟩ = some (.int .i64 a0_0) := b1 BK217 0; have hcz9_1 : wc.cell? ⟨gb217, 1, none⟩ = some (.int .i64 a0_1) := b1 BK217 1; have hcz9_2 : wc.cell? ⟨gb217, 2, none⟩ = some (.int .i64 a0_2) := b1 BK217 2; have hcz9_3 : wc.cell? ⟨gb217, 3, none⟩ = some (.slice A0_3 l0_3.length c0_3) := b1 BK217 3; have hfz9_0 := blk_frozen BK217.out 0; have hfz9_1 := blk_frozen BK217.out 1; have hfz9_2 := blk_frozen BK217.out 2; have hfz9_3 := blk_frozen BK217.out 3
    go_wp2
    go_loopg [22] kj1 (fun kq v22 w' => ∃ (x22_2 : Int), v22 = .int .i64 x22_2 ∧ Aside0 (impl_AutoOk.l0 kq l0_3 (l0_3.length : Int) x22_2 a0_0 a0_1 a0_2 l0_3 = some r) ∧ Aside0 (kq ≤ kj1) ∧ Aside0 (w'.heap[gb217]? = some (.cells #[.int .i64 a0_0, .int .i64 a0_1, .int .i64 a0_2, (.slice A0_3 l0_3.length c0_3)] 24 (0, 0))) ∧ Aside0 (Below w.heap.size w w'))
    case atStart => exact ⟨(0), (by first | rfl | (simp; done) | (simp [*]; done) | (rw [Int.tmod_eq_emod_of_nonneg (Int.natCast_nonneg _)]; done)), H', ⟨Nat.le_refl _⟩, ⟨zB BK217.out⟩, ⟨zS HB.out⟩⟩
    case round =>
     clear H'
     try clear c2
     try clear p2
     try clear c5
     try clear c6
     try clear c8
     try clear hcz6_0
     try clear hcz6_1
     try clear hcz6_2
     try clear hcz6_3
     try clear hcz7_0
     try clear hcz7_1
     try clear hcz7_2
     try clear hcz7_3
     try clear hcz9_0
     try clear hcz9_1
     try clear hcz9_2
     try clear hcz9_3
     try clear hfz6_0
     try clear hfz6_1
     try clear hfz6_2
     try clear hfz6_3
     try clear hfz7_0
     try clear hfz7_1
     try clear hfz7_2
     try clear hfz7_3
     try clear hfz9_0
     try clear hfz9_1
     try clear hfz9_2
     try clear hfz9_3
     try clear p2
     obtain ⟨x22_2, rfl, HA, HK2, BK217, HB⟩ := hrel
     cases gk with
     | zero => exact absurd HA.out (by simp [impl_AutoOk.l0])
     | succ k2 =>
      have H := HA.out; clear HA; simp only [impl_AutoOk.l0] at H
      by_cases c10 : x22_2 < (l0_3.length : Int)
      ·rw [if_pos c10] at H; have c10b0 : decide (x22_2 < (l0_3.length : Int)) = true := decide_eq_true c10; clear c10
       by_cases c11 : 0 ≤ x22_2
       ·rw [if_pos c11] at H; have c11b0 : decide (0 ≤ x22_2) = true := decide_eq_true c11; clear c11
        by_cases c12 : x22_2 < (l0_3.length : Int)
        ·rw [if_pos c12] at H; have c12b0 : decide (x22_2 < (l0_3.length : Int)) = true := decide_eq_true c12; clear c12; have HC13 := Aside0.mk H; clear H; have p219 : 0 ≤ (x22_2 : Int) := oD; have q219 : x22_2 < (l0_3.length : Int) := oD; obtain ⟨ad219, e219, hx219_0, hx219_1, hx219_2, hx219_3⟩ := at_T68 HR0_3.out x22_2 p219 q219
         cases e219
         replace hx219_0 := cT HB hx219_0; replace hx219_1 := cT HB hx219_1; replace hx219_2 := cT HB hx219_2; replace hx219_3 := cT HB hx219_3; replace p219 := eq_true p219; replace q219 := eq_true q219
         go_upto_region 6 with (first | ((with_reducible refine gate_dst (N := 4) rfl ?_); (try (refine gate_guard (by rfl) ?_; dsimp only)); refine box_event ?hg (N := 4) ?hd (cs := #[.int .i64 0, .int .i64 0, .int .i64 0, .bool false]) (t := 68) ?hr ?_; (case hd => rfl); (case hg => rfl); (case hr => first | (go_simp; done) | (go_simp; rfl)); intro gb220 hg w14 hbox hb; have BK220 := Aside0.mk (hbox); have GW220 := xG HB hg; have GE220 := xG HB hg; replace HB := xS HB hb; have NB217_220 := xN BK217 hg; have NB220_217 := xM BK217 hg; replace BK217 := xB BK217 hb; clear hb hbox hg; have hnb15 := NB220_217.out; have hnc15 := NB217_220.out; have hcz16_0 : w14.cell? ⟨gb220, 0, none⟩ = some (.int .i64 0) := b1 BK220 0; have hcz16_1 : w14.cell? ⟨gb220, 1, none⟩ = some (.int .i64 0) := b1 BK220 1; have hcz16_2 : w14.cell? ⟨gb220, 2, none⟩ = some (.int .i64 0) := b1 BK220 2; have hcz16_3 : w14.cell? ⟨gb220, 3, none⟩ = some (.bool false) := b1 BK220 3; have hfz16_0 := blk_frozen BK220.out 0; have hfz16_1 := blk_frozen BK220.out 1; have hfz16_2 := blk_frozen BK220.out 2; have hfz16_3 := blk_frozen BK220.out 3))
         (try simp only [Act.put, q3])
         go_cut [51] (fun v51 wc => ∃ (kq : Nat) (x51_12 : Bool), v51 = .bool x51_12 ∧ Aside0 (impl_AutoOk.j2 kq x22_2 l0_3 (l0_3.length : Int) x22_2 x51_12 a0_0 a0_1 a0_2 l0_3 ((rd_T68 l0_3 x22_2).f0) ((rd_T68 l0_3 x22_2).f1) ((rd_T68 l0_3 x22_2).f2) ((rd_T68 l0_3 x22_2).f3) = some r) ∧ Aside0 (kq ≤ k2) ∧ Aside0 (wc.heap[gb217]? = some (.cells #[.int .i64 a0_0, .int .i64 a0_1, .int .i64 a0_2, (.slice (some ad219) l0_3.length c0_3)] 24 (0, 0))) ∧ Aside0 (wc.heap[gb220]? = some (.cells #[.int .i64 ((rd_T68 l0_3 x22_2).f0), .int .i64 ((rd_T68 l0_3 x22_2).f1), .int .i64 ((rd_T68 l0_3 x22_2).f2), .bool ((rd_T68 l0_3 x22_2).f3)] 68 (0, 0))) ∧ Aside0 (Below w.heap.size w wc))
         case first =>
          have H := HC13.out; clear HC13; replace H := Option.bind_eq_some_iff.mp H; obtain ⟨t221, A170, H⟩ := H; replace H : (if t221 = true then ((impl_inRange.f ((rd_T68 l0_3 x22_2).f2) 0 (wrap64 (a0_1 - 1))).bind fun t222 => (if t222 = true then ((impl_inRange.f ((rd_T68 l0_3 x22_2).f1) 0 (wrap64 (a0_0 - 1))).bind fun t223 => (impl_AutoOk.j2 k2 x22_2 l0_3 (l0_3.length : Int) x22_2 (!t223) a0_0 a0_1 a0_2 l0_3 ((rd_T68 l0_3 x22_2).f0) ((rd_T68 l0_3 x22_2).f1) ((rd_T68 l0_3 x22_2).f2) ((rd_T68 l0_3 x22_2).f3))) else (impl_AutoOk.j2 k2 x22_2 l0_3 (l0_3.length : Int) x22_2 true a0_0 a0_1 a0_2 l0_3 ((rd_T68 l0_3 x22_2).f0) ((rd_T68 l0_3 x22_2).f1) ((rd_T68 l0_3 x22_2).f2) ((rd_T68 l0_3 x22_2).f3)))) else (impl_AutoOk.j2 k2 x22_2 l0_3 (l0_3.length : Int) x22_2 true a0_0 a0_1 a0_2 l0_3 ((rd_T68 l0_3 x22_2).f0) ((rd_T68 l0_3 x22_2).f1) ((rd_T68 l0_3 x22_2).f2) ((rd_T68 l0_3 x22_2).f3))) = some r := H; have A17 := Aside0.mk A170; clear A170
          by_cases c18 : t221 = true
          ·subst c18
           have H1 : ((impl_inRange.f ((rd_T68 l0_3 x22_2).f2) 0 (wrap64 (a0_1 - 1))).bind fun t222 => (if t222 = true then ((impl_inRange.f ((rd_T68 l0_3 x22_2).f1) 0 (wrap64 (a0_0 - 1))).bind fun t223 => (impl_AutoOk.j2 k2 x22_2 l0_3 (l0_3.length : Int) x22_2 (!t223) a0_0 a0_1 a0_2 l0_3 ((rd_T68 l0_3 x22_2).f0) ((rd_T68 l0_3 x22_2).f1) ((rd_T68 l0_3 x22_2).f2) ((rd_T68 l0_3 x22_2).f3))) else (impl_AutoOk.j2 k2 x22_2 l0_3 (l0_3.length : Int) x22_2 true a0_0 a0_1 a0_2 l0_3 ((rd_T68 l0_3 x22_2).f0) ((rd_T68 l0_3 x22_2).f1) ((rd_T68 l0_3 x22_2).f2) ((rd_T68 l0_3 x22_2).f3)))) = some r := by rw [if_pos rfl] at H; exact H
           clear H; have H := H1; clear H1; replace H := Option.bind_eq_some_iff.mp H; obtain ⟨t222, A190, H⟩ := H; replace H : (if t222 = true then ((impl_inRange.f ((rd_T68 l0_3 x22_2).f1) 0 (wrap64 (a0_0 - 1))).bind fun t223 => (impl_AutoOk.j2 k2 x22_2 l0_3 (l0_3.length : Int) x22_2 (!t223) a0_0 a0_1 a0_2 l0_3 ((rd_T68 l0_3 x22_2).f0) ((rd_T68 l0_3 x22_2).f1) ((rd_T68 l0_3 x22_2).f2) ((rd_T68 l0_3 x22_2).f3))) else (impl_AutoOk.j2 k2 x22_2 l0_3 (l0_3.length : Int) x22_2 true a0_0 a0_1 a0_2 l0_3 ((rd_T68 l0_3 x22_2).f0) ((rd_T68 l0_3 x22_2).f1) ((rd_T68 l0_3 x22_2).f2) ((rd_T68 l0_3 x22_2).f3))) = some r := H; have A19 := Aside0.mk A190; clear A190
           by_cases c20 : t222 = true
           ·subst c20
            have H1 : ((impl_inRange.f ((rd_T68 l0_3 x22_2).f1) 0 (wrap64 (a0_0 - 1))).bind fun t223 => (impl_AutoOk.j2 k2 x22_2 l0_3 (l0_3.length : Int) x22_2 (!t223) a0_0 a0_1 a0_2 l0_3 ((rd_T68 l0_3 x22_2).f0) ((rd_T68 l0_3 x22_2).f1) ((rd_T68 l0_3 x22_2).f2) ((rd_T68 l0_3 x22_2).f3))) = some r := by rw [if_pos rfl] at H; exact H
            clear H; have H := H1; clear H1; replace H := Option.bind_eq_some_iff.mp H; obtain ⟨t223, A210, H⟩ := H; replace H : (impl_AutoOk.j2 k2 x22_2 l0_3 (l0_3.length : Int) x22_2 (!t223) a0_0 a0_1 a0_2 l0_3 ((rd_T68 l0_3 x22_2).f0) ((rd_T68 l0_3 x22_2).f1) ((rd_T68 l0_3 x22_2).f2) ((rd_T68 l0_3 x22_2).f3)) = some r := H; have A21 := Aside0.mk A210; clear A210; have H' := Aside0.mk H; clear H; have hnb22 := NB220_217.out; have hnc22 := NB217_220.out; have hcz23_0 : w14.cell? ⟨gb220, 0, none⟩ = some (.int .i64 0) := b1 BK220 0; have hcz23_1 : w14.cell? ⟨gb220, 1, none⟩ = some (.int .i64 0) := b1 BK220 1; have hcz23_2 : w14.cell? ⟨gb220, 2, none⟩ = some (.int .i64 0) := b1 BK220 2; have hcz23_3 : w14.cell? ⟨gb220, 3, none⟩ = some (.bool false) := b1 BK220 3; have hfz23_0 := blk_frozen BK220.out 0; have hfz23_1 := blk_frozen BK220.out 1; have hfz23_2 := blk_frozen BK220.out 2; have hfz23_3 := blk_frozen BK220.out 3; have hcz24_0 : w14.cell? ⟨gb217, 0, none⟩ = some (.int .i64 a0_0) := b1 BK217 0; have hcz24_1 : w14.cell? ⟨gb217, 1, none⟩ = some (.int .i64 a0_1) := b1 BK217 1; have hcz24_2 : w14.cell? ⟨gb217, 2, none⟩ = some (.int .i64 a0_2) := b1 BK217 2; have hcz24_3 : w14.cell? ⟨gb217, 3, none⟩ = some (.slice (some ad219) l0_3.length c0_3) := b1 BK217 3; have hfz24_0 := blk_frozen BK217.out 0; have hfz24_1 := blk_frozen BK217.out 1; have hfz24_2 := blk_frozen BK217.out 2; have hfz24_3 := blk_frozen BK217.out 3
            go_wp2_with (first | ((with_reducible refine gate_callee (f := 69) rfl ?_); refine goesL_ (some 32) rfl rfl Try.func69 (by kernel_rfl) rfl #[.int .i64 ((rd_T68 l0_3 x22_2).f0), .int .i64 0, .int .i64 (wrap64 (a0_1 - 1))] rfl (by (try simp only [m3]); first | done | rfl | (simp only [d2]; rfl)) ?_; (with_reducible refine (impl_inRange.calls ((rd_T68 l0_3 x22_2).f0) 0 (wrap64 (a0_1 - 1)) true _ A17.out).mono ?_); rintro e w' ⟨rfl, ⟨nd, rfl⟩⟩; refine ⟨_, rfl, ?_⟩) | (go_at_call 69; (with_reducible refine (impl_inRange.calls ((rd_T68 l0_3 x22_2).f2) 0 (wrap64 (a0_1 - 1)) true _ A19.out).mono ?_); rintro e w' ⟨rfl, ⟨nd, rfl⟩⟩) | (go_at_call 69; (with_reducible refine (impl_inRange.calls ((rd_T68 l0_3 x22_2).f1) 0 (wrap64 (a0_0 - 1)) t223 _ A21.out).mono ?_); rintro e w' ⟨rfl, ⟨nd, rfl⟩⟩))
            go_meet
            case rel => exact ⟨_, (!t223), (by first | rfl | (simp; done) | (simp [*]; done) | (rw [Int.tmod_eq_emod_of_nonneg (Int.natCast_nonneg _)]; done)), H', ⟨by have := HJ1.out; have := HK2.out; first | omega | exact Nat.le_refl _⟩, ⟨zB BK217.out⟩, ⟨by (with_reducible repeat (first | refine blk_drewN ?_ _ | refine blk_drew ?_ | refine blk_alloc ?_ _)); refine blk_put (cs := #[.int .i64 ((rd_T68 l0_3 x22_2).f0), .int .i64 ((rd_T68 l0_3 x22_2).f1), .int .i64 ((rd_T68 l0_3 x22_2).f2), .bool false]) ?_ 3 _ rfl; (with_reducible repeat (first | refine blk_drewN ?_ _ | refine blk_drew ?_ | refine blk_alloc ?_ _)); refine blk_put (cs := #[.int .i64 ((rd_T68 l0_3 x22_2).f0), .int .i64 ((rd_T68 l0_3 x22_2).f1), .int .i64 0, .bool false]) ?_ 2 _ rfl; (with_reducible repeat (first | refine blk_drewN ?_ _ | refine blk_drew ?_ | refine blk_alloc ?_ _)); refine blk_put (cs := #[.int .i64 ((rd_T68 l0_3 x22_2).f0), .int .i64 0, .int .i64 0, .bool false]) ?_ 1 _ rfl; (with_reducible repeat (first | refine blk_drewN ?_ _ | refine blk_drew ?_ | refine blk_alloc ?_ _)); refine blk_put (cs := #[.int .i64 0, .int .i64 0, .int .i64 0, .bool false]) ?_ 0 _ rfl; (with_reducible repeat (first | refine blk_drewN ?_ _ | refine blk_drew ?_ | refine blk_alloc ?_ _)); exact BK220.out⟩, ⟨zS HB.out⟩⟩
           ·replace c20 := Bool.eq_false_iff.mpr c20; subst c20
            have H1 : (impl_AutoOk.j2 k2 x22_2 l0_3 (l0_3.length : Int) x22_2 true a0_0 a0_1 a0_2 l0_3 ((rd_T68 l0_3 x22_2).f0) ((rd_T68 l0_3 x22_2).f1) ((rd_T68 l0_3 x22_2).f2) ((rd_T68 l0_3 x22_2).f3)) = some r := by rw [if_neg (show ¬ (false = true) by decide)] at H; exact H
            clear H; have H := H1; clear H1; have H' := Aside0.mk H; clear H; have hnb25 := NB220_217.out; have hnc25 := NB217_220.out; have hcz26_0 : w14.cell? ⟨gb220, 0, none⟩ = some (.int .i64 0) := b1 BK220 0; have hcz26_1 : w14.cell? ⟨gb220, 1, none⟩ = some (.int .i64 0) := b1 BK220 1; have hcz26_2 : w14.cell? ⟨gb220, 2, none⟩ = some (.int .i64 0) := b1 BK220 2; have hcz26_3 : w14.cell? ⟨gb220, 3, none⟩ = some (.bool false) := b1 BK220 3; have hfz26_0 := blk_frozen BK220.out 0; have hfz26_1 := blk_frozen BK220.out 1; have hfz26_2 := blk_frozen BK220.out 2; have hfz26_3 := blk_frozen BK220.out 3; have hcz27_0 : w14.cell? ⟨gb217, 0, none⟩ = some (.int .i64 a0_0) := b1 BK217 0; have hcz27_1 : w14.cell? ⟨gb217, 1, none⟩ = some (.int .i64 a0_1) := b1 BK217 1; have hcz27_2 : w14.cell? ⟨gb217, 2, none⟩ = some (.int .i64 a0_2) := b1 BK217 2; have hcz27_3 : w14.cell? ⟨gb217, 3, none⟩ = some (.slice (some ad219) l0_3.length c0_3) := b1 BK217 3; have hfz27_0 := blk_frozen BK217.out 0; have hfz27_1 := blk_frozen BK217.out 1; have hfz27_2 := blk_frozen BK217.out 2; have hfz27_3 := blk_frozen BK217.out 3
            go_wp2_with (first | ((with_reducible refine gate_callee (f := 69) rfl ?_); refine goesL_ (some 32) rfl rfl Try.func69 (by kernel_rfl) rfl #[.int .i64 ((rd_T68 l0_3 x22_2).f0), .int .i64 0, .int .i64 (wrap64 (a0_1 - 1))] rfl (by (try simp only [m3]); first | done | rfl | (simp only [d2]; rfl)) ?_; (with_reducible refine (impl_inRange.calls ((rd_T68 l0_3 x22_2).f0) 0 (wrap64 (a0_1 - 1)) true _ A17.out).mono ?_); rintro e w' ⟨rfl, ⟨nd, rfl⟩⟩; refine ⟨_, rfl, ?_⟩) | (go_at_call 69; (with_reducible refine (impl_inRange.calls ((rd_T68 l0_3 x22_2).f2) 0 (wrap64 (a0_1 - 1)) false _ A19.out).mono ?_); rintro e w' ⟨rfl, ⟨nd, rfl⟩⟩))
            go_meet
            case rel => exact ⟨_, (true), (by first | rfl | (simp; done) | (simp [*]; done) | (rw [Int.tmod_eq_emod_of_nonneg (Int.natCast_nonneg _)]; done)), H', ⟨by have := HJ1.out; have := HK2.out; first | omega | exact Nat.le_refl _⟩, ⟨zB BK217.out⟩, ⟨by (with_reducible repeat (first | refine blk_drewN ?_ _ | refine blk_drew ?_ | refine blk_alloc ?_ _)); refine blk_put (cs := #[.int .i64 ((rd_T68 l0_3 x22_2).f0), .int .i64 ((rd_T68 l0_3 x22_2).f1), .int .i64 ((rd_T68 l0_3 x22_2).f2), .bool false]) ?_ 3 _ rfl; (with_reducible repeat (first | refine blk_drewN ?_ _ | refine blk_drew ?_ | refine blk_alloc ?_ _)); refine blk_put (cs := #[.int .i64 ((rd_T68 l0_3 x22_2).f0), .int .i64 ((rd_T68 l0_3 x22_2).f1), .int .i64 0, .bool false]) ?_ 2 _ rfl; (with_reducible repeat (first | refine blk_drewN ?_ _ | refine blk_drew ?_ | refine blk_alloc ?_ _)); refine blk_put (cs := #[.int .i64 ((rd_T68 l0_3 x22_2).f0), .int .i64 0, .int .i64 0, .bool false]) ?_ 1 _ rfl; (with_reducible repeat (first | refine blk_drewN ?_ _ | refine blk_drew ?_ | refine blk_alloc ?_ _)); refine blk_put (cs := #[.int .i64 0, .int .i64 0, .int .i64 0, .bool false]) ?_ 0 _ rfl; (with_reducible repeat (first | refine blk_drewN ?_ _ | refine blk_drew ?_ | refine blk_alloc ?_ _)); exact BK220.out⟩, ⟨zS HB.out⟩⟩
          ·replace c18 := Bool.eq_false_iff.mpr c18; subst c18
           have H1 : (impl_AutoOk.j2 k2 x22_2 l0_3 (l0_3.length : Int) x22_2 true a0_0 a0_1 a0_2 l0_3 ((rd_T68 l0_3 x22_2).f0) ((rd_T68 l0_3 x22_2).f1) ((rd_T68 l0_3 x22_2).f2) ((rd_T68 l0_3 x22_2).f3)) = some r := by rw [if_neg (show ¬ (false = true) by decide)] at H; exact H
           clear H; have H := H1; clear H1; have H' := Aside0.mk H; clear H; have hnb28 := NB220_217.out; have hnc28 := NB217_220.out; have hcz29_0 : w14.cell? ⟨gb220, 0, none⟩ = some (.int .i64 0) := b1 BK220 0; have hcz29_1 : w14.cell? ⟨gb220, 1, none⟩ = some (.int .i64 0) := b1 BK220 1; have hcz29_2 : w14.cell? ⟨gb220, 2, none⟩ = some (.int .i64 0) := b1 BK220 2; have hcz29_3 : w14.cell? ⟨gb220, 3, none⟩ = some (.bool false) := b1 BK220 3; have hfz29_0 := blk_frozen BK220.out 0; have hfz29_1 := blk_frozen BK220.out 1; have hfz29_2 := blk_frozen BK220.out 2; have hfz29_3 := blk_frozen BK220.out 3; have hcz30_0 : w14.cell? ⟨gb217, 0, none⟩ = some (.int .i64 a0_0) := b1 BK217 0; have hcz30_1 : w14.cell? ⟨gb217, 1, none⟩ = some (.int .i64 a0_1) := b1 BK217 1; have hcz30_2 : w14.cell? ⟨gb217, 2, none⟩ = some (.int .i64 a0_2) := b1 BK217 2; have hcz30_3 : w14.cell? ⟨gb217, 3, none⟩ = some (.slice (some ad219) l0_3.length c0_3) := b1 BK217 3; have hfz30_0 := blk_frozen BK217.out 0; have hfz30_1 := blk_frozen BK217.out 1; have hfz30_2 := blk_frozen BK217.out 2; have hfz30_3 := blk_frozen BK217.out 3
           go_wp2_with (first | ((with_reducible refine gate_callee (f := 69) rfl ?_); refine goesL_ (some 32) rfl rfl Try.func69 (by kernel_rfl) rfl #[.int .i64 ((rd_T68 l0_3 x22_2).f0), .int .i64 0, .int .i64 (wrap64 (a0_1 - 1))] rfl (by (try simp only [m3]); first | done | rfl | (simp only [d2]; rfl)) ?_; (with_reducible refine (impl_inRange.calls ((rd_T68 l0_3 x22_2).f0) 0 (wrap64 (a0_1 - 1)) false _ A17.out).mono ?_); rintro e w' ⟨rfl, ⟨nd, rfl⟩⟩; refine ⟨_, rfl, ?_⟩))
           go_meet
           case rel => exact ⟨_, (true), (by first | rfl | (simp; done) | (simp [*]; done) | (rw [Int.tmod_eq_emod_of_nonneg (Int.natCast_nonneg _)]; done)), H', ⟨by have := HJ1.out; have := HK2.out; first | omega | exact Nat.le_refl _⟩, ⟨zB BK217.out⟩, ⟨by (with_reducible repeat (first | refine blk_drewN ?_ _ | refine blk_drew ?_ | refine blk_alloc ?_ _)); refine blk_put (cs := #[.int .i64 ((rd_T68 l0_3 x22_2).f0), .int .i64 ((rd_T68 l0_3 x22_2).f1), .int .i64 ((rd_T68 l0_3 x22_2).f2), .bool false]) ?_ 3 _ rfl; (with_reducible repeat (first | refine blk_drewN ?_ _ | refine blk_drew ?_ | refine blk_alloc ?_ _)); refine blk_put (cs := #[.int .i64 ((rd_T68 l0_3 x22_2).f0), .int .i64 ((rd_T68 l0_3 x22_2).f1), .int .i64 0, .bool false]) ?_ 2 _ rfl; (with_reducible repeat (first | refine blk_drewN ?_ _ | refine blk_drew ?_ | refine blk_alloc ?_ _)); refine blk_put (cs := #[.int .i64 ((rd_T68 l0_3 x22_2).f0), .int .i64 0, .int .i64 0, .bool false]) ?_ 1 _ rfl; (with_reducible repeat (first | refine blk_drewN ?_ _ | refine blk_drew ?_ | refine blk_alloc ?_ _)); refine blk_put (cs := #[.int .i64 0, .int .i64 0, .int .i64 0, .bool false]) ?_ 0 _ rfl; (with_reducible repeat (first | refine blk_drewN ?_ _ | refine blk_drew ?_ | refine blk_alloc ?_ _)); exact BK220.out⟩, ⟨zS HB.out⟩⟩
         case rest =>
          clear HC13
          try clear c1
          try clear c2
          try clear p2
          try clear q2
          try clear hx2
          try clear c5
          try clear c6
          try clear p6
          try clear c8
          try clear c10
          try clear c10b0
          try clear c11
          try clear c11b0
          try clear c12
          try clear c12b0
          try clear c15
          try clear c18
          try clear c20
          try clear p21
          try clear q21
          try clear hx21
          try clear c22
          try clear c25
          try clear c28
          try clear hcz16_0
          try clear hcz16_1
          try clear hcz16_2
          try clear hcz16_3
          try clear hcz23_0
          try clear hcz23_1
          try clear hcz23_2
          try clear hcz23_3
          try clear hcz24_0
          try clear hcz24_1
          try clear hcz24_2
          try clear hcz24_3
          try clear hcz26_0
          try clear hcz26_1
          try clear hcz26_2
          try clear hcz26_3
          try clear hcz27_0
          try clear hcz27_1
          try clear hcz27_2
          try clear hcz27_3
          try clear hcz29_0
          try clear hcz29_1
          try clear hcz29_2
          try clear hcz29_3
          try clear hcz30_0
          try clear hcz30_1
          try clear hcz30_2
          try clear hcz30_3
          try clear hcz6_0
          try clear hcz6_1
          try clear hcz6_2
          try clear hcz6_3
          try clear hcz7_0
          try clear hcz7_1
          try clear hcz7_2
          try clear hcz7_3
          try clear hcz9_0
          try clear hcz9_1
          try clear hcz9_2
          try clear hcz9_3
          try clear hfz16_0
          try clear hfz16_1
          try clear hfz16_2
          try clear hfz16_3
          try clear hfz23_0
          try clear hfz23_1
          try clear hfz23_2
          try clear hfz23_3
          try clear hfz24_0
          try clear hfz24_1
          try clear hfz24_2
          try clear hfz24_3
          try clear hfz26_0
          try clear hfz26_1
          try clear hfz26_2
          try clear hfz26_3
          try clear hfz27_0
          try clear hfz27_1
          try clear hfz27_2
          try clear hfz27_3
          try clear hfz29_0
          try clear hfz29_1
          try clear hfz29_2
          try clear hfz29_3
          try clear hfz30_0
          try clear hfz30_1
          try clear hfz30_2
          try clear hfz30_3
          try clear hfz6_0
          try clear hfz6_1
          try clear hfz6_2
          try clear hfz6_3
          try clear hfz7_0
          try clear hfz7_1
          try clear hfz7_2
          try clear hfz7_3
          try clear hfz9_0
          try clear hfz9_1
          try clear hfz9_2
          try clear hfz9_3
          try clear hx219_0
          try clear hx219_1
          try clear hx219_2
          try clear hx219_3
          try clear p2
          try clear p219
          try clear q219
          obtain ⟨kq, x51_12, rfl, HA, HJ12, BK217, BK220, HB⟩ := hcut
          cases kq with
          | zero => exact absurd HA.out (by simp [impl_AutoOk.j2])
          | succ kj12 =>
           have H := HA.out; clear HA; simp only [impl_AutoOk.j2] at H
           by_cases c31 : x51_12 = true
           ·subst c31
            have H1 : (some false) = some r := by rw [if_pos rfl] at H; exact H
            clear H; have H := H1; clear H1; obtain rfl := Option.some.inj H
            go_wp2
            go_ret; exact ⟨by first | rfl | (simp [errW_none, errW_some] <;> rfl) | (simp [*, errW_none, errW_some] <;> rfl), by repeat (first | (with_reducible first | exact HB.out | apply below_alloc | apply pw_below_drewN | apply below_drew1 | refine below_set ?_ GE217.out | refine below_set ?_ GE220.out) | exact HB.out)⟩
           ·replace c31 := Bool.eq_false_iff.mpr c31; subst c31
            have H1 : (if x22_2 > 0 then (if 0 ≤ (wrap64 (x22_2 - 1)) then (if (wrap64 (x22_2 - 1)) < (l0_3.length : Int) then ((impl_compareEdges.f kj12 ((rd_T68 l0_3 (wrap64 (x22_2 - 1))).f0) ((rd_T68 l0_3 (wrap64 (x22_2 - 1))).f1) ((rd_T68 l0_3 (wrap64 (x22_2 - 1))).f2) ((rd_T68 l0_3 (wrap64 (x22_2 - 1))).f3) ((rd_T68 l0_3 x22_2).f0) ((rd_T68 l0_3 x22_2).f1) ((rd_T68 l0_3 x22_2).f2) ((rd_T68 l0_3 x22_2).f3)).bind fun t225 => (if t225 ≥ 0 then (some false) else (impl_AutoOk.l0 kj12 l0_3 (l0_3.length : Int) (wrap64 (x22_2 + 1)) a0_0 a0_1 a0_2 l0_3))) else (none)) else (none)) else (impl_AutoOk.l0 kj12 l0_3 (l0_3.length : Int) (wrap64 (x22_2 + 1)) a0_0 a0_1 a0_2 l0_3)) = some r := by rw [if_neg (show ¬ (false = true) by decide)] at H; exact H
            clear H; have H := H1; clear H1
            by_cases c32 : x22_2 > 0
            ·rw [if_pos c32] at H; have c32b0 : decide (0 < x22_2) = true := decide_eq_true c32; clear c32; obtain ⟨ji33, hji33⟩ : ∃ j_ : Int, (wrap64 (x22_2 - 1)) = j_ := ⟨_, rfl⟩
             replace H : (if 0 ≤ (ji33) then (if (ji33) < (l0_3.length : Int) then ((impl_compareEdges.f kj12 ((rd_T68 l0_3 (ji33)).f0) ((rd_T68 l0_3 (ji33)).f1) ((rd_T68 l0_3 (ji33)).f2) ((rd_T68 l0_3 (ji33)).f3) ((rd_T68 l0_3 x22_2).f0) ((rd_T68 l0_3 x22_2).f1) ((rd_T68 l0_3 x22_2).f2) ((rd_T68 l0_3 x22_2).f3)).bind fun t225 => (if t225 ≥ 0 then (some false) else (impl_AutoOk.l0 kj12 l0_3 (l0_3.length : Int) (wrap64 (x22_2 + 1)) a0_0 a0_1 a0_2 l0_3))) else (none)) else (none)) = some r := by first | (rw [hji33] at H; exact H) | (simp only [hji33] at H ⊢; exact H)
             have hji33w : (IntKind.i64.wrap (x22_2 - 1)) = ji33 := (i64_w _).trans hji33
             by_cases c34 : 0 ≤ (ji33)
             ·rw [if_pos c34] at H; have c34b0 : decide (0 ≤ (ji33)) = true := decide_eq_true c34; clear c34
              by_cases c35 : (ji33) < (l0_3.length : Int)
              ·rw [if_pos c35] at H; have c35b0 : decide ((ji33) < (l0_3.length : Int)) = true := decide_eq_true c35; clear c35; replace H := Option.bind_eq_some_iff.mp H; obtain ⟨t225, A360, H⟩ := H; replace H : (if t225 ≥ 0 then (some false) else (impl_AutoOk.l0 kj12 l0_3 (l0_3.length : Int) (wrap64 (x22_2 + 1)) a0_0 a0_1 a0_2 l0_3)) = some r := H; have A36 := Aside0.mk A360; clear A360
               by_cases c37 : t225 ≥ 0
               ·rw [if_pos c37] at H; have c37b0 : decide (0 ≤ t225) = true := decide_eq_true c37; clear c37; obtain rfl := Option.some.inj H
                try go_wp2
                replace BK217 := Aside0.mk (blk_drew BK217.out); replace BK220 := Aside0.mk (blk_drew BK220.out); replace HB := Aside0.mk (below_drew1 HB.out); have p224 : 0 ≤ ((ji33) : Int) := oD; have q224 : (ji33) < (l0_3.length : Int) := oD; obtain ⟨ad224, e224, hx224_0, hx224_1, hx224_2, hx224_3⟩ := at_T68 HR0_3.out (ji33) p224 q224; have hw224_3 := hx224_3; have hw224_2 := hx224_2; have hw224_1 := hx224_1; have hw224_0 := hx224_0; obtain rfl : ad219 = ad224 := (by injection e224); replace hx224_0 := cT HB hx224_0; replace hx224_1 := cT HB hx224_1; replace hx224_2 := cT HB hx224_2; replace hx224_3 := cT HB hx224_3; replace p224 := eq_true p224; replace q224 := eq_true q224; refine start_ (n := 13) (S := fun w' => w'.cell? ⟨gb217, 0, none⟩ = some (.int .i64 a0_0) ∧ w'.cell? ⟨gb217, 1, none⟩ = some (.int .i64 a0_1) ∧ w'.cell? ⟨gb217, 2, none⟩ = some (.int .i64 a0_2) ∧ w'.cell? ⟨gb217, 3, none⟩ = some (.slice (some ad219) l0_3.length c0_3) ∧ w'.cell? ⟨gb220, 0, none⟩ = some (.int .i64 ((rd_T68 l0_3 x22_2).f0)) ∧ w'.cell? ⟨gb220, 1, none⟩ = some (.int .i64 ((rd_T68 l0_3 x22_2).f1)) ∧ w'.cell? ⟨gb220, 2, none⟩ = some (.int .i64 ((rd_T68 l0_3 x22_2).f2)) ∧ w'.cell? ⟨gb220, 3, none⟩ = some (.bool ((rd_T68 l0_3 x22_2).f3)) ∧ w'.cell? (ad219.add (((ji33)).toNat * 4)) = some (.int .i64 ((rd_T68 l0_3 (ji33)).f0)) ∧ w'.cell? ⟨(ad219.add (((ji33)).toNat * 4)).block, (ad219.add (((ji33)).toNat * 4)).off + 1, none⟩ = some (.int .i64 ((rd_T68 l0_3 (ji33)).f1)) ∧ w'.cell? ⟨(ad219.add (((ji33)).toNat * 4)).block, (ad219.add (((ji33)).toNat * 4)).off + 2, none⟩ = some (.int .i64 ((rd_T68 l0_3 (ji33)).f2)) ∧ w'.cell? ⟨(ad219.add (((ji33)).toNat * 4)).block, (ad219.add (((ji33)).toNat * 4)).off + 3, none⟩ = some (.bool ((rd_T68 l0_3 (ji33)).f3))) (ds := []) bl0 (by kernel_rfl) rfl rfl ⟨b1 BK217 0, b1 BK217 1, b1 BK217 2, b1 BK217 3, b1 BK220 0, b1 BK220 1, b1 BK220 2, b1 BK220 3, ((HB.out.cell (World.block_lt_of_cell? w _ hw224_0)).trans hw224_0), ((HB.out.cell (World.block_lt_of_cell? w _ hw224_1)).trans hw224_1), ((HB.out.cell (World.block_lt_of_cell? w _ hw224_2)).trans hw224_2), ((HB.out.cell (World.block_lt_of_cell? w _ hw224_3)).trans hw224_3)⟩ (fun hHeld => ?_); refine with_tabW impl_AutoOk.tab8 impl_AutoOk.bits8 (fun HT_ HW_ => ?_); generalize wc.drew = w38 at BK217 BK220 HB hx224_0 hx224_1 hx224_2 hx224_3 hHeld ⊢
                refine pu 0 (some 52) bl1 HT_ ?_ rfl rfl (.inl ⟨by rfl, ?_⟩) ?_ ?_ ?_; rotate_left; (intro w'; go_simp; with_reducible rfl); rotate_left; (simp only [Act.put, q5]; rfl)
                refine pu 1 (some 53) bl2 HT_ ?_ rfl rfl (.inl ⟨by rfl, ?_⟩) ?_ ?_ ?_; rotate_left; (intro w'; go_simp; with_reducible rfl); rotate_left; (simp only [Act.put, q5]; rfl)
                refine pu 2 (some 54) bl3 HT_ ?_ rfl rfl (.inl ⟨by rfl, ?_⟩) ?_ ?_ ?_; rotate_left; (intro w'; go_simp; with_reducible rfl); rotate_left; (simp only [Act.put, q5]; rfl)
                refine pu 3 (some 55) bl4 HT_ ?_ rfl rfl (.inl ⟨by rfl, ?_⟩) ?_ ?_ ?_; rotate_left; (intro w'; go_simp; with_reducible rfl); rotate_left; (simp only [Act.put, q5]; rfl)
                refine pu 5 (some 57) bl5 HT_ ?_ rfl rfl (.inl ⟨by rfl, ?_⟩) ?_ ?_ ?_; rotate_left; (intro w'; go_simp; with_reducible rfl); rotate_left; (simp only [Act.put, q5]; rfl)
                refine pu 6 (some 58) bl6 HT_ ?_ rfl rfl (.inl ⟨by rfl, ?_⟩) ?_ ?_ ?_; rotate_left; (intro w'; go_simp; with_reducible rfl); rotate_left; (simp only [Act.put, q5]; rfl)
                refine take_ (i := 4) (N := some 56) (v := ?_) (a' := ?_) bl7 rfl rfl (take_ofW HT_.out HW_.out (by kernel_rfl)) (fun _ _ _ h => h) (Or.inl ⟨by rfl, ?_⟩) hHeld ?_ ?_; rotate_left
                ·rintro w' ⟨s0, s1, s2, s3, s4, s5, s6, s7, s8, s9, s10, s11⟩; go_simp; with_reducible rfl
                rotate_left
                ·simp only [Act.put, q5]; rfl
                refine pu 7 (some 59) bl8 HT_ ?_ rfl rfl (.inl ⟨by rfl, ?_⟩) ?_ ?_ ?_; rotate_left; (intro w'; go_simp; with_reducible rfl); rotate_left; (simp only [Act.put, q5]; rfl)
                refine take_ (i := 8) (N := some 60) (v := ?_) (a' := ?_) bl9 rfl rfl (take_ofW HT_.out HW_.out (by kernel_rfl)) (fun _ _ _ h => h) (Or.inl ⟨by rfl, ?_⟩) hHeld ?_ ?_; rotate_left
                ·rintro w' ⟨s0, s1, s2, s3, s4, s5, s6, s7, s8, s9, s10, s11⟩; go_simp; with_reducible rfl
                rotate_left
                ·simp only [Act.put, q5]; rfl
                refine take_ (i := 9) (N := some 61) (v := ?_) (a' := ?_) bl10 rfl rfl (take_ofW HT_.out HW_.out (by kernel_rfl)) (fun _ _ _ h => h) (Or.inl ⟨by rfl, ?_⟩) hHeld ?_ ?_; rotate_left
                ·rintro w' ⟨s0, s1, s2, s3, s4, s5, s6, s7, s8, s9, s10, s11⟩; go_simp; with_reducible rfl
                rotate_left
                ·simp only [Act.put, q5]; rfl
                refine one_ (i := 10) (N := some 62) bl11 rfl rfl (one_of HT_.out (by kernel_rfl)) (by decide) (fun K hK => ?_); refine goes_ Try.func70 (by kernel_rfl) rfl #[.agg #[.int .i64 ((rd_T68 l0_3 (ji33)).f0), .int .i64 ((rd_T68 l0_3 (ji33)).f1), .int .i64 ((rd_T68 l0_3 (ji33)).f2), .bool ((rd_T68 l0_3 (ji33)).f3)], .agg #[.int .i64 ((rd_T68 l0_3 x22_2).f0), .int .i64 ((rd_T68 l0_3 x22_2).f1), .int .i64 ((rd_T68 l0_3 x22_2).f2), .bool ((rd_T68 l0_3 x22_2).f3)]] (by rfl) rfl rfl (by (try simp only [m3]); first | done | (simp only [hji33]; rfl) | rfl | (simp only [d2]; rfl)) ?_
                with_reducible refine (impl_compareEdges.calls kj12 ((rd_T68 l0_3 (ji33)).f0) ((rd_T68 l0_3 (ji33)).f1) ((rd_T68 l0_3 (ji33)).f2) ((rd_T68 l0_3 (ji33)).f3) ((rd_T68 l0_3 x22_2).f0) ((rd_T68 l0_3 x22_2).f1) ((rd_T68 l0_3 x22_2).f2) ((rd_T68 l0_3 x22_2).f3) t225 _ A36.out).mono ?_
                rintro e w39 ⟨rfl, hb⟩; refine ⟨_, rfl, ?_⟩; replace BK217 := xB BK217 hb; replace BK220 := xB BK220 hb; replace HB := xS HB hb
                (try clear hb)
                (try clear hb2)
                (try clear hk)
                (try clear hi)
                refine hK.out _ _ ⟨b1 BK217 0, b1 BK217 1, b1 BK217 2, b1 BK217 3, b1 BK220 0, b1 BK220 1, b1 BK220 2, b1 BK220 3, ((HB.out.cell (World.block_lt_of_cell? w _ hw224_0)).trans hw224_0), ((HB.out.cell (World.block_lt_of_cell? w _ hw224_1)).trans hw224_1), ((HB.out.cell (World.block_lt_of_cell? w _ hw224_2)).trans hw224_2), ((HB.out.cell (World.block_lt_of_cell? w _ hw224_3)).trans hw224_3)⟩ (fun hHeld => ?_); clear hK K; refine norm_ (a' := ?_) ?_ ?_; rotate_left
                ·show Act.put _ (some 62) _ = _; simp only [Act.put, q5]; rfl
                refine pu 11 (some 63) bl12 HT_ ?_ rfl rfl (.inl ⟨by rfl, ?_⟩) ?_ ?_ ?_; rotate_left; (intro w'; go_simp; with_reducible rfl); rotate_left; (simp only [Act.put, q5]; rfl)
                refine pu 12 (some 64) bl13 HT_ ?_ rfl rfl (.inl ⟨by rfl, ?_⟩) ?_ ?_ ?_; rotate_left; (intro w'; go_simp; with_reducible rfl); rotate_left; (simp only [Act.put, q5]; rfl)
                refine done_ (done_of HT_.out (by kernel_rfl)) ?_
                try go_wp2
                go_ret; exact ⟨by first | rfl | (simp [errW_none, errW_some] <;> rfl) | (simp only [← hji33]; first | rfl | (simp [errW_none, errW_some] <;> rfl)) | (simp [*, errW_none, errW_some] <;> rfl), by repeat (first | (with_reducible first | exact HB.out | apply below_alloc | apply pw_below_drewN | apply below_drew1 | refine below_set ?_ GE217.out | refine below_set ?_ GE220.out) | exact HB.out)⟩
               ·rw [if_neg c37] at H; have c37b0 : decide (0 ≤ t225) = false := decide_eq_false c37; clear c37; have H' := Aside0.mk H; clear H
                try go_wp2
                replace BK217 := Aside0.mk (blk_drew BK217.out); replace BK220 := Aside0.mk (blk_drew BK220.out); replace HB := Aside0.mk (below_drew1 HB.out); have p224 : 0 ≤ ((ji33) : Int) := oD; have q224 : (ji33) < (l0_3.length : Int) := oD; obtain ⟨ad224, e224, hx224_0, hx224_1, hx224_2, hx224_3⟩ := at_T68 HR0_3.out (ji33) p224 q224; have hw224_3 := hx224_3; have hw224_2 := hx224_2; have hw224_1 := hx224_1; have hw224_0 := hx224_0; obtain rfl : ad219 = ad224 := (by injection e224); replace hx224_0 := cT HB hx224_0; replace hx224_1 := cT HB hx224_1; replace hx224_2 := cT HB hx224_2; replace hx224_3 := cT HB hx224_3; replace p224 := eq_true p224; replace q224 := eq_true q224; refine start_ (n := 13) (S := fun w' => w'.cell? ⟨gb217, 0, none⟩ = some (.int .i64 a0_0) ∧ w'.cell? ⟨gb217, 1, none⟩ = some (.int .i64 a0_1) ∧ w'.cell? ⟨gb217, 2, none⟩ = some (.int .i64 a0_2) ∧ w'.cell? ⟨gb217, 3, none⟩ = some (.slice (some ad219) l0_3.length c0_3) ∧ w'.cell? ⟨gb220, 0, none⟩ = some (.int .i64 ((rd_T68 l0_3 x22_2).f0)) ∧ w'.cell? ⟨gb220, 1, none⟩ = some (.int .i64 ((rd_T68 l0_3 x22_2).f1)) ∧ w'.cell? ⟨gb220, 2, none⟩ = some (.int .i64 ((rd_T68 l0_3 x22_2).f2)) ∧ w'.cell? ⟨gb220, 3, none⟩ = some (.bool ((rd_T68 l0_3 x22_2).f3)) ∧ w'.cell? (ad219.add (((ji33)).toNat * 4)) = some (.int .i64 ((rd_T68 l0_3 (ji33)).f0)) ∧ w'.cell? ⟨(ad219.add (((ji33)).toNat * 4)).block, (ad219.add (((ji33)).toNat * 4)).off + 1, none⟩ = some (.int .i64 ((rd_T68 l0_3 (ji33)).f1)) ∧ w'.cell? ⟨(ad219.add (((ji33)).toNat * 4)).block, (ad219.add (((ji33)).toNat * 4)).off + 2, none⟩ = some (.int .i64 ((rd_T68 l0_3 (ji33)).f2)) ∧ w'.cell? ⟨(ad219.add (((ji33)).toNat * 4)).block, (ad219.add (((ji33)).toNat * 4)).off + 3, none⟩ = some (.bool ((rd_T68 l0_3 (ji33)).f3))) (ds := []) bl0 (by kernel_rfl) rfl rfl ⟨b1 BK217 0, b1 BK217 1, b1 BK217 2, b1 BK217 3, b1 BK220 0, b1 BK220 1, b1 BK220 2, b1 BK220 3, ((HB.out.cell (World.block_lt_of_cell? w _ hw224_0)).trans hw224_0), ((HB.out.cell (World.block_lt_of_cell? w _ hw224_1)).trans hw224_1), ((HB.out.cell (World.block_lt_of_cell? w _ hw224_2)).trans hw224_2), ((HB.out.cell (World.block_lt_of_cell? w _ hw224_3)).trans hw224_3)⟩ (fun hHeld => ?_); refine with_tabW impl_AutoOk.tab8 impl_AutoOk.bits8 (fun HT_ HW_ => ?_); generalize wc.drew = w40 at BK217 BK220 HB hx224_0 hx224_1 hx224_2 hx224_3 hHeld ⊢
                refine pu 0 (some 52) bl1 HT_ ?_ rfl rfl (.inl ⟨by rfl, ?_⟩) ?_ ?_ ?_; rotate_left; (intro w'; go_simp; with_reducible rfl); rotate_left; (simp only [Act.put, q5]; rfl)
                refine pu 1 (some 53) bl2 HT_ ?_ rfl rfl (.inl ⟨by rfl, ?_⟩) ?_ ?_ ?_; rotate_left; (intro w'; go_simp; with_reducible rfl); rotate_left; (simp only [Act.put, q5]; rfl)
                refine pu 2 (some 54) bl3 HT_ ?_ rfl rfl (.inl ⟨by rfl, ?_⟩) ?_ ?_ ?_; rotate_left; (intro w'; go_simp; with_reducible rfl); rotate_left; (simp only [Act.put, q5]; rfl)
                refine pu 3 (some 55) bl4 HT_ ?_ rfl rfl (.inl ⟨by rfl, ?_⟩) ?_ ?_ ?_; rotate_left; (intro w'; go_simp; with_reducible rfl); rotate_left; (simp only [Act.put, q5]; rfl)
                refine pu 5 (some 57) bl5 HT_ ?_ rfl rfl (.inl ⟨by rfl, ?_⟩) ?_ ?_ ?_; rotate_left; (intro w'; go_simp; with_reducible rfl); rotate_left; (simp only [Act.put, q5]; rfl)
                refine pu 6 (some 58) bl6 HT_ ?_ rfl rfl (.inl ⟨by rfl, ?_⟩) ?_ ?_ ?_; rotate_left; (intro w'; go_simp; with_reducible rfl); rotate_left; (simp only [Act.put, q5]; rfl)
                refine take_ (i := 4) (N := some 56) (v := ?_) (a' := ?_) bl7 rfl rfl (take_ofW HT_.out HW_.out (by kernel_rfl)) (fun _ _ _ h => h) (Or.inl ⟨by rfl, ?_⟩) hHeld ?_ ?_; rotate_left
                ·rintro w' ⟨s0, s1, s2, s3, s4, s5, s6, s7, s8, s9, s10, s11⟩; go_simp; with_reducible rfl
                rotate_left
                ·simp only [Act.put, q5]; rfl
                refine pu 7 (some 59) bl8 HT_ ?_ rfl rfl (.inl ⟨by rfl, ?_⟩) ?_ ?_ ?_; rotate_left; (intro w'; go_simp; with_reducible rfl); rotate_left; (simp only [Act.put, q5]; rfl)
                refine take_ (i := 8) (N := some 60) (v := ?_) (a' := ?_) bl9 rfl rfl (take_ofW HT_.out HW_.out (by kernel_rfl)) (fun _ _ _ h => h) (Or.inl ⟨by rfl, ?_⟩) hHeld ?_ ?_; rotate_left
                ·rintro w' ⟨s0, s1, s2, s3, s4, s5, s6, s7, s8, s9, s10, s11⟩; go_simp; with_reducible rfl
                rotate_left
                ·simp only [Act.put, q5]; rfl
                refine take_ (i := 9) (N := some 61) (v := ?_) (a' := ?_) bl10 rfl rfl (take_ofW HT_.out HW_.out (by kernel_rfl)) (fun _ _ _ h => h) (Or.inl ⟨by rfl, ?_⟩) hHeld ?_ ?_; rotate_left
                ·rintro w' ⟨s0, s1, s2, s3, s4, s5, s6, s7, s8, s9, s10, s11⟩; go_simp; with_reducible rfl
                rotate_left
                ·simp only [Act.put, q5]; rfl
                refine one_ (i := 10) (N := some 62) bl11 rfl rfl (one_of HT_.out (by kernel_rfl)) (by decide) (fun K hK => ?_); refine goes_ Try.func70 (by kernel_rfl) rfl #[.agg #[.int .i64 ((rd_T68 l0_3 (ji33)).f0), .int .i64 ((rd_T68 l0_3 (ji33)).f1), .int .i64 ((rd_T68 l0_3 (ji33)).f2), .bool ((rd_T68 l0_3 (ji33)).f3)], .agg #[.int .i64 ((rd_T68 l0_3 x22_2).f0), .int .i64 ((rd_T68 l0_3 x22_2).f1), .int .i64 ((rd_T68 l0_3 x22_2).f2), .bool ((rd_T68 l0_3 x22_2).f3)]] (by rfl) rfl rfl (by (try simp only [m3]); first | done | (simp only [hji33]; rfl) | rfl | (simp only [d2]; rfl)) ?_
                with_reducible refine (impl_compareEdges.calls kj12 ((rd_T68 l0_3 (ji33)).f0) ((rd_T68 l0_3 (ji33)).f1) ((rd_T68 l0_3 (ji33)).f2) ((rd_T68 l0_3 (ji33)).f3) ((rd_T68 l0_3 x22_2).f0) ((rd_T68 l0_3 x22_2).f1) ((rd_T68 l0_3 x22_2).f2) ((rd_T68 l0_3 x22_2).f3) t225 _ A36.out).mono ?_
                rintro e w41 ⟨rfl, hb⟩; refine ⟨_, rfl, ?_⟩; replace BK217 := xB BK217 hb; replace BK220 := xB BK220 hb; replace HB := xS HB hb
                (try clear hb)
                (try clear hb2)
                (try clear hk)
                (try clear hi)
                refine hK.out _ _ ⟨b1 BK217 0, b1 BK217 1, b1 BK217 2, b1 BK217 3, b1 BK220 0, b1 BK220 1, b1 BK220 2, b1 BK220 3, ((HB.out.cell (World.block_lt_of_cell? w _ hw224_0)).trans hw224_0), ((HB.out.cell (World.block_lt_of_cell? w _ hw224_1)).trans hw224_1), ((HB.out.cell (World.block_lt_of_cell? w _ hw224_2)).trans hw224_2), ((HB.out.cell (World.block_lt_of_cell? w _ hw224_3)).trans hw224_3)⟩ (fun hHeld => ?_); clear hK K; refine norm_ (a' := ?_) ?_ ?_; rotate_left
                ·show Act.put _ (some 62) _ = _; simp only [Act.put, q5]; rfl
                refine pu 11 (some 63) bl12 HT_ ?_ rfl rfl (.inl ⟨by rfl, ?_⟩) ?_ ?_ ?_; rotate_left; (intro w'; go_simp; with_reducible rfl); rotate_left; (simp only [Act.put, q5]; rfl)
                refine pu 12 (some 64) bl13 HT_ ?_ rfl rfl (.inl ⟨by rfl, ?_⟩) ?_ ?_ ?_; rotate_left; (intro w'; go_simp; with_reducible rfl); rotate_left; (simp only [Act.put, q5]; rfl)
                refine done_ (done_of HT_.out (by kernel_rfl)) ?_
                try go_wp2
                (first | go_roundg kj12 | ((try simp only [← hji33]); go_roundg kj12))
                case measure => have := HJ1.out; have := HK2.out; have := HJ12.out; omega
                case rel => exact ⟨(wrap64 (x22_2 + 1)), (by first | rfl | (simp; done) | (simp [*]; done) | (rw [Int.tmod_eq_emod_of_nonneg (Int.natCast_nonneg _)]; done)), (by first | exact H' | (have h_ := H'; (try simp only [← hji33] at h_); (try simp only [← hji33]); exact h_)), ⟨by have := HJ1.out; have := HK2.out; have := HJ12.out; omega⟩, ⟨zB BK217.out⟩, ⟨zS HB.out⟩⟩
              ·rw [if_neg c35] at H; exact absurd H (by simp)
             ·rw [if_neg c34] at H; exact absurd H (by simp)
            ·rw [if_neg c32] at H; have c32b0 : decide (0 < x22_2) = false := decide_eq_false c32; clear c32; have H' := Aside0.mk H; clear H
             try go_wp2
             replace BK217 := Aside0.mk (blk_drew BK217.out); replace BK220 := Aside0.mk (blk_drew BK220.out); replace HB := Aside0.mk (below_drew1 HB.out); refine start_ (n := 13) (S := fun w' => True) (ds := []) bl0 (by kernel_rfl) rfl rfl trivial (fun hHeld => ?_); refine with_tabW impl_AutoOk.tab8 impl_AutoOk.bits8 (fun HT_ HW_ => ?_); generalize wc.drew = w42 at BK217 BK220 HB hHeld ⊢
             refine pu 0 (some 52) bl1 HT_ ?_ rfl rfl (.inl ⟨by rfl, ?_⟩) ?_ ?_ ?_; rotate_left; (intro w'; go_simp; with_reducible rfl); rotate_left; (simp only [Act.put, q5]; rfl)
             refine pu 1 (some 53) bl2 HT_ ?_ rfl rfl (.inl ⟨by rfl, ?_⟩) ?_ ?_ ?_; rotate_left; (intro w'; go_simp; with_reducible rfl); rotate_left; (simp only [Act.put, q5]; rfl)
             refine pu 2 (some 54) bl3 HT_ ?_ rfl rfl (.inl ⟨by rfl, ?_⟩) ?_ ?_ ?_; rotate_left; (intro w'; go_simp; with_reducible rfl); rotate_left; (simp only [Act.put, q5]; rfl)
             refine pu 3 (some 55) bl4 HT_ undef rfl rfl (.inr ⟨by rfl, rfl⟩) ?_ ?_ ?_; rotate_left; (simp only [Act.put, q5]; rfl)
             refine pu 4 (some 56) bl14 HT_ undef rfl rfl (.inr ⟨by rfl, rfl⟩) ?_ ?_ ?_; rotate_left; (simp only [Act.put, q5]; rfl)
             refine pu 5 (some 57) bl15 HT_ undef rfl rfl (.inr ⟨by rfl, rfl⟩) ?_ ?_ ?_; rotate_left; (simp only [Act.put, q5]; rfl)
             refine pu 6 (some 58) bl7 HT_ undef rfl rfl (.inr ⟨by rfl, rfl⟩) ?_ ?_ ?_; rotate_left; (simp only [Act.put, q5]; rfl)
             refine pu 7 (some 59) bl8 HT_ undef rfl rfl (.inr ⟨by rfl, rfl⟩) ?_ ?_ ?_; rotate_left; (simp only [Act.put, q5]; rfl)
             refine pu 8 (some 60) bl9 HT_ undef rfl rfl (.inr ⟨by rfl, rfl⟩) ?_ ?_ ?_; rotate_left; (simp only [Act.put, q5]; rfl)
             refine pu 9 (some 61) bl10 HT_ undef rfl rfl (.inr ⟨by rfl, rfl⟩) ?_ ?_ ?_; rotate_left; (simp only [Act.put, q5]; rfl)
             refine pu 10 (some 62) bl11 HT_ undef rfl rfl (.inr ⟨by rfl, rfl⟩) ?_ ?_ ?_; rotate_left; (simp only [Act.put, q5]; rfl)
             refine pu 11 (some 63) bl12 HT_ undef rfl rfl (.inr ⟨by rfl, rfl⟩) ?_ ?_ ?_; rotate_left; (simp only [Act.put, q5]; rfl)
             refine pu 12 (some 64) bl13 HT_ ?_ rfl rfl (.inl ⟨by rfl, ?_⟩) ?_ ?_ ?_; rotate_left; (intro w'; go_simp; with_reducible rfl); rotate_left; (simp only [Act.put, q5]; rfl)
             refine done_ (done_of HT_.out (by kernel_rfl)) ?_
             try go_wp2
             go_roundg kj12
             case measure => have := HJ1.out; have := HK2.out; have := HJ12.out; omega
             case rel => exact ⟨(wrap64 (x22_2 + 1)), (by first | rfl | (simp; done) | (simp [*]; done) | (rw [Int.tmod_eq_emod_of_nonneg (Int.natCast_nonneg _)]; done)), H', ⟨by have := HJ1.out; have := HK2.out; have := HJ12.out; omega⟩, ⟨zB BK217.out⟩, ⟨zS HB.out⟩⟩
        ·rw [if_neg c12] at H; exact absurd H (by simp)
       ·rw [if_neg c11] at H; exact absurd H (by simp)
      ·rw [if_neg c10] at H; have c10b0 : decide (x22_2 < (l0_3.length : Int)) = false := decide_eq_false c10; clear c10; obtain rfl := Option.some.inj H
       go_wp2
       go_ret; exact ⟨by first | rfl | (simp [errW_none, errW_some] <;> rfl) | (simp [*, errW_none, errW_some] <;> rfl), by repeat (first | (with_reducible first | exact HB.out | apply below_alloc | apply pw_below_drewN | apply below_drew1 | refine below_set ?_ GE217.out) | exact HB.out)⟩


/-! ### impl_AutoEdge: function 29 -/
def impl_AutoEdge.l0 : Nat → Int → Int → Int → List (S68) → Int → Int → Option (Bool × Bool)
 | 0, _, _, _, _, _, _ => none
 | k + 1, x1, x2, x3, x16, x17, x18 => if x18 < x17 then (if 0 ≤ x18 then (if x18 < (x16.length : Int) then (if ((rd_T68 x16 x18).f0) = x1 then (if ((rd_T68 x16 x18).f1) = x2 then (if ((rd_T68 x16 x18).f2) = x3 then (some ((rd_T68 x16 x18).f3, true)) else (impl_AutoEdge.l0 k x1 x2 x3 x16 x17 (wrap64 (x18 + 1)))) else (impl_AutoEdge.l0 k x1 x2 x3 x16 x17 (wrap64 (x18 + 1)))) else (impl_AutoEdge.l0 k x1 x2 x3 x16 x17 (wrap64 (x18 + 1)))) else (none)) else (none)) else (some (false, false))
def impl_AutoEdge.f (k : Nat) (a0_0 : Int) (a0_1 : Int) (a0_2 : Int) (l0_3 : List (S68)) (a1 : Int) (a2 : Int) (a3 : Int) : Option (Bool × Bool) := (impl_AutoOk.f k a0_0 a0_1 a0_2 l0_3).bind fun t227 => (if t227 = true then (impl_AutoEdge.l0 k a1 a2 a3 l0_3 (l0_3.length : Int) 0) else (some (false, false)))
theorem impl_AutoEdge.mono_l : ∀ k, (∀ y0 y1 y2 y3 y4 y5, LeO (impl_AutoEdge.l0 k y0 y1 y2 y3 y4 y5) (impl_AutoEdge.l0 (k + 1) y0 y1 y2 y3 y4 y5))
 | 0 => fun _ _ _ _ _ _ r h => by simp [impl_AutoEdge.l0] at h
 | k + 1 => by
  have ih0 := impl_AutoEdge.mono_l k
  ·intro y0 y1 y2 y3 y4 y5
   unfold impl_AutoEdge.l0
   repeat' first
   | (with_reducible exact ih0 _ _ _ _ _ _)
   | (with_reducible exact impl_AutoOk.mono _ _ _ _ _)
   | (with_reducible exact LeO.refl _)
   | (with_reducible exact LeO.none _)
   | (with_reducible refine LeO.ite ?_ ?_)
   | (with_reducible refine LeO.bind ?_ (fun _ => ?_))
   | exact ih0 _ _ _ _ _ _
   | exact impl_AutoOk.mono _ _ _ _ _
   | exact LeO.none _
   | refine LeO.ite ?_ ?_
   | refine LeO.bind ?_ (fun _ => ?_)
theorem impl_AutoEdge.mono : ∀ a0 a1 a2 a3 a4 a5 a6 k, LeO (impl_AutoEdge.f k a0 a1 a2 a3 a4 a5 a6) (impl_AutoEdge.f (k + 1) a0 a1 a2 a3 a4 a5 a6) := by
 intro a0 a1 a2 a3 a4 a5 a6 k
 have ih0 := impl_AutoEdge.mono_l k
 unfold impl_AutoEdge.f
 repeat' first
   | (with_reducible exact ih0 _ _ _ _ _ _)
   | (with_reducible exact impl_AutoOk.mono _ _ _ _ _)
   | (with_reducible exact LeO.refl _)
   | (with_reducible exact LeO.none _)
   | (with_reducible refine LeO.ite ?_ ?_)
   | (with_reducible refine LeO.bind ?_ (fun _ => ?_))
   | exact ih0 _ _ _ _ _ _
   | exact impl_AutoOk.mono _ _ _ _ _
   | exact LeO.none _
   | refine LeO.ite ?_ ?_
   | refine LeO.bind ?_ (fun _ => ?_)
open Go.Proofs.Ytlallflpicgcmaa.Short2 in
set_option maxHeartbeats 8000000 in
set_option maxRecDepth 100000 in
theorem impl_AutoEdge.calls (k : Nat) (a0_0 : Int) (a0_1 : Int) (a0_2 : Int) (A0_3 : Option Addr) (c0_3 : Nat) (l0_3 : List (S68)) (a1 : Int) (a2 : Int) (a3 : Int) (r1 : Bool) (r2 : Bool) (w : World) (hr0_3 : Kd.C k68 w A0_3 l0_3.length l0_3) (hc0_3 : l0_3.length ≤ c0_3) (h : impl_AutoEdge.f k a0_0 a0_1 a0_2 l0_3 a1 a2 a3 = some (r1, r2)) :
  Calls Try.prog 29 #[.agg #[.int .i64 a0_0, .int .i64 a0_1, .int .i64 a0_2, .slice A0_3 l0_3.length c0_3], .int .i64 a1, .int .i64 a2, .int .i64 a3] w fun e w' => e = .returned (.tuple #[.bool r1, .bool r2]) ∧ Below w.heap.size w w' := by
 have hu24 := Try.underlying24; have hu68 := Try.underlying68; have HR0_3 := Aside0.mk hr0_3; have HC0_3 := Aside0.mk hc0_3; clear hr0_3 hc0_3; have HB := Aside0.mk (Below.refl w.heap.size w); have H : ((impl_AutoOk.f k a0_0 a0_1 a0_2 l0_3).bind fun t227 => (if t227 = true then (impl_AutoEdge.l0 k a1 a2 a3 l0_3 (l0_3.length : Int) 0) else (some (false, false)))) = some (r1, r2) := h; clear h; replace H := Option.bind_eq_some_iff.mp H; obtain ⟨t227, A50, H⟩ := H; replace H : (if t227 = true then (impl_AutoEdge.l0 k a1 a2 a3 l0_3 (l0_3.length : Int) 0) else (some (false, false))) = some (r1, r2) := H; have A5 := Aside0.mk A50; clear A50
 by_cases c6 : t227 = true
 ·subst c6
  have H1 : (impl_AutoEdge.l0 k a1 a2 a3 l0_3 (l0_3.length : Int) 0) = some (r1, r2) := by rw [if_pos rfl] at H; exact H
  clear H; have H := H1; clear H1; have H' := Aside0.mk H; clear H
  go_enter Try.func29, Try.ntmps29
  go_wp2_with (first | ((with_reducible refine gate_dst (N := 4) rfl ?_); refine box_event ?hg (N := 4) ?hd (cs := #[.int .i64 a0_0, .int .i64 a0_1, .int .i64 a0_2, .slice A0_3 l0_3.length c0_3]) (t := 24) ?hr ?_; (case hd => rfl); (case hg => rfl); (case hr => first | (go_simp; done) | (go_simp; rfl)); intro gb226 hg w7 hbox hb; have BK226 := Aside0.mk (hbox); have GW226 := xG HB hg; have GE226 := xG HB hg; replace HB := xS HB hb; clear hb hbox hg; have hcz8_0 : w7.cell? ⟨gb226, 0, none⟩ = some (.int .i64 a0_0) := b1 BK226 0; have hcz8_1 : w7.cell? ⟨gb226, 1, none⟩ = some (.int .i64 a0_1) := b1 BK226 1; have hcz8_2 : w7.cell? ⟨gb226, 2, none⟩ = some (.int .i64 a0_2) := b1 BK226 2; have hcz8_3 : w7.cell? ⟨gb226, 3, none⟩ = some (.slice A0_3 l0_3.length c0_3) := b1 BK226 3; have hfz8_0 := blk_frozen BK226.out 0; have hfz8_1 := blk_frozen BK226.out 1; have hfz8_2 := blk_frozen BK226.out 2; have hfz8_3 := blk_frozen BK226.out 3) | ((with_reducible refine gate_callee (f := 22) rfl ?_); refine goesL_ (some 13) rfl rfl Try.func22 (by kernel_rfl) rfl #[.agg #[.int .i64 a0_0, .int .i64 a0_1, .int .i64 a0_2, .slice A0_3 l0_3.length c0_3]] rfl (by (try simp only [m3]); first | done | rfl | (simp only [d2]; rfl)) ?_; (with_reducible refine (impl_AutoOk.calls k a0_0 a0_1 a0_2 _ _ l0_3 true _ ?side1 ?side2 A5.out).mono ?_); (case side1 => exact zC (Kd.C_below HR0_3.out HB.out)); (case side2 => exact HC0_3.out); rintro e w9 ⟨rfl, hb⟩; refine ⟨_, rfl, ?_⟩; replace BK226 := xB BK226 hb; replace HB := xS HB hb; (try clear hb); (try clear hb2); (try clear hk); (try clear hi); have hcz10_0 : w9.cell? ⟨gb226, 0, none⟩ = some (.int .i64 a0_0) := b1 BK226 0; have hcz10_1 : w9.cell? ⟨gb226, 1, none⟩ = some (.int .i64 a0_1) := b1 BK226 1; have hcz10_2 : w9.cell? ⟨gb226, 2, none⟩ = some (.int .i64 a0_2) := b1 BK226 2; have hcz10_3 : w9.cell? ⟨gb226, 3, none⟩ = some (.slice A0_3 l0_3.length c0_3) := b1 BK226 3; have hfz10_0 := blk_frozen BK226.out 0; have hfz10_1 := blk_frozen BK226.out 1; have hfz10_2 := blk_frozen BK226.out 2; have hfz10_3 := blk_frozen BK226.out 3))
  go_loopg [18] k (fun kq v18 w' => ∃ (x18_1 : Int), v18 = .int .i64 x18_1 ∧ Aside0 (impl_AutoEdge.l0 kq a1 a2 a3 l0_3 (l0_3.length : Int) x18_1 = some (r1, r2)) ∧ Aside0 (kq ≤ k) ∧ Aside0 (w'.heap[gb226]? = some (.cells #[.int .i64 a0_0, .int .i64 a0_1, .int .i64 a0_2, (.slice A0_3 l0_3.length c0_3)] 24 (0, 0))) ∧ Aside0 (Below w.heap.size w w'))
  case atStart => exact ⟨(0), (by first | rfl | (simp; done) | (simp [*]; done) | (rw [Int.tmod_eq_emod_of_nonneg (Int.natCast_nonneg _)]; done)), H', ⟨Nat.le_refl _⟩, ⟨zB BK226.out⟩, ⟨zS HB.out⟩⟩
  case round =>
   clear H'
   try clear c2
   try clear p2
   try clear c6
   try clear hcz10_0
   try clear hcz10_1
   try clear hcz10_2
   try clear hcz10_3
   try clear hcz8_0
   try clear hcz8_1
   try clear hcz8_2
   try clear hcz8_3
   try clear hfz10_0
   try clear hfz10_1
   try clear hfz10_2
   try clear hfz10_3
   try clear hfz8_0
   try clear hfz8_1
   try clear hfz8_2
   try clear hfz8_3
   obtain ⟨x18_1, rfl, HA, HK1, BK226, HB⟩ := hrel
   cases gk with
   | zero => exact absurd HA.out (by simp [impl_AutoEdge.l0])
   | succ k1 =>
    have H := HA.out; clear HA; simp only [impl_AutoEdge.l0] at H
    by_cases c11 : x18_1 < (l0_3.length : Int)
    ·rw [if_pos c11] at H; have c11b0 : decide (x18_1 < (l0_3.length : Int)) = true := decide_eq_true c11; clear c11
     by_cases c12 : 0 ≤ x18_1
     ·rw [if_pos c12] at H; have c12b0 : decide (0 ≤ x18_1) = true := decide_eq_true c12; clear c12
      by_cases c13 : x18_1 < (l0_3.length : Int)
      ·rw [if_pos c13] at H; have c13b0 : decide (x18_1 < (l0_3.length : Int)) = true := decide_eq_true c13; clear c13
       by_cases c14 : ((rd_T68 l0_3 x18_1).f0) = a1
       ·rw [if_pos c14] at H; have c14b0 : (((rd_T68 l0_3 x18_1).f0) == a1) = true := beq_iff_eq.mpr c14; have c14b1 : (((rd_T68 l0_3 x18_1).f0) != a1) = false := bne_eq_false_iff_eq.mpr c14; clear c14
        by_cases c15 : ((rd_T68 l0_3 x18_1).f1) = a2
        ·rw [if_pos c15] at H; have c15b0 : (((rd_T68 l0_3 x18_1).f1) == a2) = true := beq_iff_eq.mpr c15; have c15b1 : (((rd_T68 l0_3 x18_1).f1) != a2) = false := bne_eq_false_iff_eq.mpr c15; clear c15
         by_cases c16 : ((rd_T68 l0_3 x18_1).f2) = a3
         ·rw [if_pos c16] at H; have c16b0 : (((rd_T68 l0_3 x18_1).f2) == a3) = true := beq_iff_eq.mpr c16; have c16b1 : (((rd_T68 l0_3 x18_1).f2) != a3) = false := bne_eq_false_iff_eq.mpr c16; clear c16; simp only [Option.some.injEq, Prod.mk.injEq] at H; obtain ⟨rfl, rfl⟩ := H; have p228 : 0 ≤ (x18_1 : Int) := oD; have q228 : x18_1 < (l0_3.length : Int) := oD; obtain ⟨ad228, e228, hx228_0, hx228_1, hx228_2, hx228_3⟩ := at_T68 HR0_3.out x18_1 p228 q228
          cases e228
          replace hx228_0 := cT HB hx228_0; replace hx228_1 := cT HB hx228_1; replace hx228_2 := cT HB hx228_2; replace hx228_3 := cT HB hx228_3; replace p228 := eq_true p228; replace q228 := eq_true q228
          go_wp2_with (first | ((with_reducible refine gate_dst (N := 11) rfl ?_); refine box_event ?hg (N := 11) ?hd (cs := #[.int .i64 0, .int .i64 0, .int .i64 0, .bool false]) (t := 68) ?hr ?_; (case hd => rfl); (case hg => rfl); (case hr => first | (go_simp; done) | (go_simp; rfl)); intro gb229 hg w17 hbox hb; have BK229 := Aside0.mk (hbox); have GW229 := xG HB hg; have GE229 := xG HB hg; replace HB := xS HB hb; have NB226_229 := xN BK226 hg; have NB229_226 := xM BK226 hg; replace BK226 := xB BK226 hb; clear hb hbox hg; have hnb18 := NB229_226.out; have hnc18 := NB226_229.out; have hcz19_0 : w17.cell? ⟨gb229, 0, none⟩ = some (.int .i64 0) := b1 BK229 0; have hcz19_1 : w17.cell? ⟨gb229, 1, none⟩ = some (.int .i64 0) := b1 BK229 1; have hcz19_2 : w17.cell? ⟨gb229, 2, none⟩ = some (.int .i64 0) := b1 BK229 2; have hcz19_3 : w17.cell? ⟨gb229, 3, none⟩ = some (.bool false) := b1 BK229 3; have hfz19_0 := blk_frozen BK229.out 0; have hfz19_1 := blk_frozen BK229.out 1; have hfz19_2 := blk_frozen BK229.out 2; have hfz19_3 := blk_frozen BK229.out 3))
          go_ret2; exact ⟨by first | rfl | (simp [errW_none, errW_some] <;> rfl) | (simp [*, errW_none, errW_some] <;> rfl), by repeat (first | (with_reducible first | exact HB.out | apply below_alloc | apply pw_below_drewN | apply below_drew1 | refine below_set ?_ GE226.out | refine below_set ?_ GE229.out) | exact HB.out)⟩
         ·rw [if_neg c16] at H; have c16b0 : (((rd_T68 l0_3 x18_1).f2) == a3) = false := beq_eq_false_iff_ne.mpr c16; have c16b1 : (((rd_T68 l0_3 x18_1).f2) != a3) = true := bne_iff_ne.mpr c16; have H' := Aside0.mk H; clear H; have p228 : 0 ≤ (x18_1 : Int) := oD; have q228 : x18_1 < (l0_3.length : Int) := oD; obtain ⟨ad228, e228, hx228_0, hx228_1, hx228_2, hx228_3⟩ := at_T68 HR0_3.out x18_1 p228 q228
          cases e228
          replace hx228_0 := cT HB hx228_0; replace hx228_1 := cT HB hx228_1; replace hx228_2 := cT HB hx228_2; replace hx228_3 := cT HB hx228_3; replace p228 := eq_true p228; replace q228 := eq_true q228
          go_wp2_with (first | ((with_reducible refine gate_dst (N := 11) rfl ?_); refine box_event ?hg (N := 11) ?hd (cs := #[.int .i64 0, .int .i64 0, .int .i64 0, .bool false]) (t := 68) ?hr ?_; (case hd => rfl); (case hg => rfl); (case hr => first | (go_simp; done) | (go_simp; rfl)); intro gb229 hg w20 hbox hb; have BK229 := Aside0.mk (hbox); have GW229 := xG HB hg; have GE229 := xG HB hg; replace HB := xS HB hb; have NB226_229 := xN BK226 hg; have NB229_226 := xM BK226 hg; replace BK226 := xB BK226 hb; clear hb hbox hg; have hnb21 := NB229_226.out; have hnc21 := NB226_229.out; have hcz22_0 : w20.cell? ⟨gb229, 0, none⟩ = some (.int .i64 0) := b1 BK229 0; have hcz22_1 : w20.cell? ⟨gb229, 1, none⟩ = some (.int .i64 0) := b1 BK229 1; have hcz22_2 : w20.cell? ⟨gb229, 2, none⟩ = some (.int .i64 0) := b1 BK229 2; have hcz22_3 : w20.cell? ⟨gb229, 3, none⟩ = some (.bool false) := b1 BK229 3; have hfz22_0 := blk_frozen BK229.out 0; have hfz22_1 := blk_frozen BK229.out 1; have hfz22_2 := blk_frozen BK229.out 2; have hfz22_3 := blk_frozen BK229.out 3))
          go_roundg k1
          case measure => have := HK1.out; omega
          case rel => exact ⟨(wrap64 (x18_1 + 1)), (by first | rfl | (simp; done) | (simp [*]; done) | (rw [Int.tmod_eq_emod_of_nonneg (Int.natCast_nonneg _)]; done)), H', ⟨by have := HK1.out; omega⟩, ⟨zB BK226.out⟩, ⟨zS HB.out⟩⟩
        ·rw [if_neg c15] at H; have c15b0 : (((rd_T68 l0_3 x18_1).f1) == a2) = false := beq_eq_false_iff_ne.mpr c15; have c15b1 : (((rd_T68 l0_3 x18_1).f1) != a2) = true := bne_iff_ne.mpr c15; have H' := Aside0.mk H; clear H; have p228 : 0 ≤ (x18_1 : Int) := oD; have q228 : x18_1 < (l0_3.length : Int) := oD; obtain ⟨ad228, e228, hx228_0, hx228_1, hx228_2, hx228_3⟩ := at_T68 HR0_3.out x18_1 p228 q228
         cases e228
         replace hx228_0 := cT HB hx228_0; replace hx228_1 := cT HB hx228_1; replace hx228_2 := cT HB hx228_2; replace hx228_3 := cT HB hx228_3; replace p228 := eq_true p228; replace q228 := eq_true q228
         go_wp2_with (first | ((with_reducible refine gate_dst (N := 11) rfl ?_); refine box_event ?hg (N := 11) ?hd (cs := #[.int .i64 0, .int .i64 0, .int .i64 0, .bool false]) (t := 68) ?hr ?_; (case hd => rfl); (case hg => rfl); (case hr => first | (go_simp; done) | (go_simp; rfl)); intro gb229 hg w23 hbox hb; have BK229 := Aside0.mk (hbox); have GW229 := xG HB hg; have GE229 := xG HB hg; replace HB := xS HB hb; have NB226_229 := xN BK226 hg; have NB229_226 := xM BK226 hg; replace BK226 := xB BK226 hb; clear hb hbox hg; have hnb24 := NB229_226.out; have hnc24 := NB226_229.out; have hcz25_0 : w23.cell? ⟨gb229, 0, none⟩ = some (.int .i64 0) := b1 BK229 0; have hcz25_1 : w23.cell? ⟨gb229, 1, none⟩ = some (.int .i64 0) := b1 BK229 1; have hcz25_2 : w23.cell? ⟨gb229, 2, none⟩ = some (.int .i64 0) := b1 BK229 2; have hcz25_3 : w23.cell? ⟨gb229, 3, none⟩ = some (.bool false) := b1 BK229 3; have hfz25_0 := blk_frozen BK229.out 0; have hfz25_1 := blk_frozen BK229.out 1; have hfz25_2 := blk_frozen BK229.out 2; have hfz25_3 := blk_frozen BK229.out 3))
         go_roundg k1
         case measure => have := HK1.out; omega
         case rel => exact ⟨(wrap64 (x18_1 + 1)), (by first | rfl | (simp; done) | (simp [*]; done) | (rw [Int.tmod_eq_emod_of_nonneg (Int.natCast_nonneg _)]; done)), H', ⟨by have := HK1.out; omega⟩, ⟨zB BK226.out⟩, ⟨zS HB.out⟩⟩
       ·rw [if_neg c14] at H; have c14b0 : (((rd_T68 l0_3 x18_1).f0) == a1) = false := beq_eq_false_iff_ne.mpr c14; have c14b1 : (((rd_T68 l0_3 x18_1).f0) != a1) = true := bne_iff_ne.mpr c14; have H' := Aside0.mk H; clear H; have p228 : 0 ≤ (x18_1 : Int) := oD; have q228 : x18_1 < (l0_3.length : Int) := oD; obtain ⟨ad228, e228, hx228_0, hx228_1, hx228_2, hx228_3⟩ := at_T68 HR0_3.out x18_1 p228 q228
        cases e228
        replace hx228_0 := cT HB hx228_0; replace hx228_1 := cT HB hx228_1; replace hx228_2 := cT HB hx228_2; replace hx228_3 := cT HB hx228_3; replace p228 := eq_true p228; replace q228 := eq_true q228
        go_wp2_with (first | ((with_reducible refine gate_dst (N := 11) rfl ?_); refine box_event ?hg (N := 11) ?hd (cs := #[.int .i64 0, .int .i64 0, .int .i64 0, .bool false]) (t := 68) ?hr ?_; (case hd => rfl); (case hg => rfl); (case hr => first | (go_simp; done) | (go_simp; rfl)); intro gb229 hg w26 hbox hb; have BK229 := Aside0.mk (hbox); have GW229 := xG HB hg; have GE229 := xG HB hg; replace HB := xS HB hb; have NB226_229 := xN BK226 hg; have NB229_226 := xM BK226 hg; replace BK226 := xB BK226 hb; clear hb hbox hg; have hnb27 := NB229_226.out; have hnc27 := NB226_229.out; have hcz28_0 : w26.cell? ⟨gb229, 0, none⟩ = some (.int .i64 0) := b1 BK229 0; have hcz28_1 : w26.cell? ⟨gb229, 1, none⟩ = some (.int .i64 0) := b1 BK229 1; have hcz28_2 : w26.cell? ⟨gb229, 2, none⟩ = some (.int .i64 0) := b1 BK229 2; have hcz28_3 : w26.cell? ⟨gb229, 3, none⟩ = some (.bool false) := b1 BK229 3; have hfz28_0 := blk_frozen BK229.out 0; have hfz28_1 := blk_frozen BK229.out 1; have hfz28_2 := blk_frozen BK229.out 2; have hfz28_3 := blk_frozen BK229.out 3))
        go_roundg k1
        case measure => have := HK1.out; omega
        case rel => exact ⟨(wrap64 (x18_1 + 1)), (by first | rfl | (simp; done) | (simp [*]; done) | (rw [Int.tmod_eq_emod_of_nonneg (Int.natCast_nonneg _)]; done)), H', ⟨by have := HK1.out; omega⟩, ⟨zB BK226.out⟩, ⟨zS HB.out⟩⟩
      ·rw [if_neg c13] at H; exact absurd H (by simp)
     ·rw [if_neg c12] at H; exact absurd H (by simp)
    ·rw [if_neg c11] at H; have c11b0 : decide (x18_1 < (l0_3.length : Int)) = false := decide_eq_false c11; clear c11; simp only [Option.some.injEq, Prod.mk.injEq] at H; obtain ⟨rfl, rfl⟩ := H
     go_wp2
     go_ret2; exact ⟨by first | rfl | (simp [errW_none, errW_some] <;> rfl) | (simp [*, errW_none, errW_some] <;> rfl), by repeat (first | (with_reducible first | exact HB.out | apply below_alloc | apply pw_below_drewN | apply below_drew1 | refine below_set ?_ GE226.out) | exact HB.out)⟩
 ·replace c6 := Bool.eq_false_iff.mpr c6; subst c6
  have H1 : (some (false, false)) = some (r1, r2) := by rw [if_neg (show ¬ (false = true) by decide)] at H; exact H
  clear H; have H := H1; clear H1; simp only [Option.some.injEq, Prod.mk.injEq] at H; obtain ⟨rfl, rfl⟩ := H
  go_enter Try.func29, Try.ntmps29
  go_wp2_with (first | ((with_reducible refine gate_dst (N := 4) rfl ?_); refine box_event ?hg (N := 4) ?hd (cs := #[.int .i64 a0_0, .int .i64 a0_1, .int .i64 a0_2, .slice A0_3 l0_3.length c0_3]) (t := 24) ?hr ?_; (case hd => rfl); (case hg => rfl); (case hr => first | (go_simp; done) | (go_simp; rfl)); intro gb226 hg w29 hbox hb; have BK226 := Aside0.mk (hbox); have GW226 := xG HB hg; have GE226 := xG HB hg; replace HB := xS HB hb; clear hb hbox hg; have hcz30_0 : w29.cell? ⟨gb226, 0, none⟩ = some (.int .i64 a0_0) := b1 BK226 0; have hcz30_1 : w29.cell? ⟨gb226, 1, none⟩ = some (.int .i64 a0_1) := b1 BK226 1; have hcz30_2 : w29.cell? ⟨gb226, 2, none⟩ = some (.int .i64 a0_2) := b1 BK226 2; have hcz30_3 : w29.cell? ⟨gb226, 3, none⟩ = some (.slice A0_3 l0_3.length c0_3) := b1 BK226 3; have hfz30_0 := blk_frozen BK226.out 0; have hfz30_1 := blk_frozen BK226.out 1; have hfz30_2 := blk_frozen BK226.out 2; have hfz30_3 := blk_frozen BK226.out 3) | ((with_reducible refine gate_callee (f := 22) rfl ?_); refine goesL_ (some 13) rfl rfl Try.func22 (by kernel_rfl) rfl #[.agg #[.int .i64 a0_0, .int .i64 a0_1, .int .i64 a0_2, .slice A0_3 l0_3.length c0_3]] rfl (by (try simp only [m3]); first | done | rfl | (simp only [d2]; rfl)) ?_; (with_reducible refine (impl_AutoOk.calls k a0_0 a0_1 a0_2 _ _ l0_3 false _ ?side1 ?side2 A5.out).mono ?_); (case side1 => exact zC (Kd.C_below HR0_3.out HB.out)); (case side2 => exact HC0_3.out); rintro e w31 ⟨rfl, hb⟩; refine ⟨_, rfl, ?_⟩; replace BK226 := xB BK226 hb; replace HB := xS HB hb; (try clear hb); (try clear hb2); (try clear hk); (try clear hi)))
  go_ret2; exact ⟨by first | rfl | (simp [errW_none, errW_some] <;> rfl) | (simp [*, errW_none, errW_some] <;> rfl), by repeat (first | (with_reducible first | exact HB.out | apply below_alloc | apply pw_below_drewN | apply below_drew1 | refine below_set ?_ GE226.out) | exact HB.out)⟩


/-! ### impl_areLetters: function 116 -/
def impl_areLetters.l0 : Nat → Int → List Int → Int → Int → Option (Bool)
 | 0, _, _, _, _ => none
 | k + 1, x1, x7, x8, x9 => if x9 < x8 then (if 0 ≤ x9 then (if x9 < (x7.length : Int) then ((impl_inRange.f (rd x7 x9) 0 (wrap64 (x1 - 1))).bind fun t231 => (if t231 = true then (impl_areLetters.l0 k x1 x7 x8 (wrap64 (x9 + 1))) else (some false))) else (none)) else (none)) else (some true)
def impl_areLetters.f (k : Nat) (l0 : List Int) (a1 : Int) : Option (Bool) := impl_areLetters.l0 k a1 l0 (l0.length : Int) 0
theorem impl_areLetters.mono_l : ∀ k, (∀ y0 y1 y2 y3, LeO (impl_areLetters.l0 k y0 y1 y2 y3) (impl_areLetters.l0 (k + 1) y0 y1 y2 y3))
 | 0 => fun _ _ _ _ r h => by simp [impl_areLetters.l0] at h
 | k + 1 => by
  have ih0 := impl_areLetters.mono_l k
  ·intro y0 y1 y2 y3
   unfold impl_areLetters.l0
   repeat' first
   | (with_reducible exact ih0 _ _ _ _)
   | (with_reducible exact LeO.refl _)
   | (with_reducible exact LeO.none _)
   | (with_reducible refine LeO.ite ?_ ?_)
   | (with_reducible refine LeO.bind ?_ (fun _ => ?_))
   | exact ih0 _ _ _ _
   | exact LeO.none _
   | refine LeO.ite ?_ ?_
   | refine LeO.bind ?_ (fun _ => ?_)
theorem impl_areLetters.mono : ∀ a0 a1 k, LeO (impl_areLetters.f k a0 a1) (impl_areLetters.f (k + 1) a0 a1) := by
 intro a0 a1 k
 have ih0 := impl_areLetters.mono_l k
 unfold impl_areLetters.f
 repeat' first
   | (with_reducible exact ih0 _ _ _ _)
   | (with_reducible exact LeO.refl _)
   | (with_reducible exact LeO.none _)
   | (with_reducible refine LeO.ite ?_ ?_)
   | (with_reducible refine LeO.bind ?_ (fun _ => ?_))
   | exact ih0 _ _ _ _
   | exact LeO.none _
   | refine LeO.ite ?_ ?_
   | refine LeO.bind ?_ (fun _ => ?_)
open Go.Proofs.Ytlallflpicgcmaa.Short2 in
set_option maxHeartbeats 8000000 in
set_option maxRecDepth 100000 in
theorem impl_areLetters.calls (k : Nat) (A0 : Option Addr) (c0 : Nat) (l0 : List Int) (a1 : Int) (r : Bool) (w : World) (hr0 : Kd.C (Kd.int .i64) w A0 l0.length l0) (hc0 : l0.length ≤ c0) (h : impl_areLetters.f k l0 a1 = some r) :
  Calls Try.prog 116 #[.slice A0 l0.length c0, .int .i64 a1] w fun e w' => e = .returned (.bool r) ∧ Drawn0 w w' := by
 have HR0 := Aside0.mk hr0; have HC0 := Aside0.mk hc0; clear hr0 hc0; have H : (impl_areLetters.l0 k a1 l0 (l0.length : Int) 0) = some r := h; clear h; have H' := Aside0.mk H; clear H
 go_enter Try.func116, Try.ntmps116
 go_wp2
 go_loopg [9] k (fun kq v9 w' => ∃ (x9_1 : Int), v9 = .int .i64 x9_1 ∧ Aside0 (impl_areLetters.l0 kq a1 l0 (l0.length : Int) x9_1 = some r) ∧ Aside0 (kq ≤ k) ∧ Drawn0 w w')
 case atStart => exact ⟨(0), (by first | rfl | (simp; done) | (simp [*]; done) | (rw [Int.tmod_eq_emod_of_nonneg (Int.natCast_nonneg _)]; done)), H', ⟨Nat.le_refl _⟩, by repeat (first | exact Drawn0.refl _ | apply Drawn0.step)⟩
 case round =>
  clear H'
  try clear c1
  try clear p2
  obtain ⟨x9_1, rfl, HA, HK1, ⟨m1, rfl⟩⟩ := hrel
  cases gk with
  | zero => exact absurd HA.out (by simp [impl_areLetters.l0])
  | succ k1 =>
   have H := HA.out; clear HA; simp only [impl_areLetters.l0] at H
   by_cases c3 : x9_1 < (l0.length : Int)
   ·rw [if_pos c3] at H; have c3b0 : decide (x9_1 < (l0.length : Int)) = true := decide_eq_true c3; clear c3
    by_cases c4 : 0 ≤ x9_1
    ·rw [if_pos c4] at H; have c4b0 : decide (0 ≤ x9_1) = true := decide_eq_true c4; clear c4
     by_cases c5 : x9_1 < (l0.length : Int)
     ·rw [if_pos c5] at H; have c5b0 : decide (x9_1 < (l0.length : Int)) = true := decide_eq_true c5; clear c5; replace H := Option.bind_eq_some_iff.mp H; obtain ⟨t231, A60, H⟩ := H; replace H : (if t231 = true then (impl_areLetters.l0 k1 a1 l0 (l0.length : Int) (wrap64 (x9_1 + 1))) else (some false)) = some r := H; have A6 := Aside0.mk A60; clear A60
      by_cases c7 : t231 = true
      ·subst c7
       have H1 : (impl_areLetters.l0 k1 a1 l0 (l0.length : Int) (wrap64 (x9_1 + 1))) = some r := by rw [if_pos rfl] at H; exact H
       clear H; have H := H1; clear H1; have H' := Aside0.mk H; clear H; have p230 : 0 ≤ (x9_1 : Int) := oD; have q230 : x9_1 < (l0.length : Int) := oD; obtain ⟨ad230, e230, hx230_0⟩ := Kd.at_int HR0.out x9_1 p230 q230
       cases e230
       replace p230 := eq_true p230; replace q230 := eq_true q230
       go_wp2_with (first | ((with_reducible refine gate_callee (f := 69) rfl ?_); refine goesL_ (some 16) rfl rfl Try.func69 (by kernel_rfl) rfl #[.int .i64 (rd l0 x9_1), .int .i64 0, .int .i64 (wrap64 (a1 - 1))] rfl (by (try simp only [m3]); first | done | rfl | (simp only [d2]; rfl)) ?_; (with_reducible refine (impl_inRange.calls (rd l0 x9_1) 0 (wrap64 (a1 - 1)) true _ A6.out).mono ?_); rintro e w' ⟨rfl, ⟨nd, rfl⟩⟩; refine ⟨_, rfl, ?_⟩))
       go_roundg k1
       case measure => have := HK1.out; omega
       case rel => exact ⟨(wrap64 (x9_1 + 1)), (by first | rfl | (simp; done) | (simp [*]; done) | (rw [Int.tmod_eq_emod_of_nonneg (Int.natCast_nonneg _)]; done)), H', ⟨by have := HK1.out; omega⟩, by repeat (first | exact Drawn0.refl _ | apply Drawn0.step)⟩
      ·replace c7 := Bool.eq_false_iff.mpr c7; subst c7
       have H1 : (some false) = some r := by rw [if_neg (show ¬ (false = true) by decide)] at H; exact H
       clear H; have H := H1; clear H1; obtain rfl := Option.some.inj H; have p230 : 0 ≤ (x9_1 : Int) := oD; have q230 : x9_1 < (l0.length : Int) := oD; obtain ⟨ad230, e230, hx230_0⟩ := Kd.at_int HR0.out x9_1 p230 q230
       cases e230
       replace p230 := eq_true p230; replace q230 := eq_true q230
       go_wp2_with (first | ((with_reducible refine gate_callee (f := 69) rfl ?_); refine goesL_ (some 16) rfl rfl Try.func69 (by kernel_rfl) rfl #[.int .i64 (rd l0 x9_1), .int .i64 0, .int .i64 (wrap64 (a1 - 1))] rfl (by (try simp only [m3]); first | done | rfl | (simp only [d2]; rfl)) ?_; (with_reducible refine (impl_inRange.calls (rd l0 x9_1) 0 (wrap64 (a1 - 1)) false _ A6.out).mono ?_); rintro e w' ⟨rfl, ⟨nd, rfl⟩⟩; refine ⟨_, rfl, ?_⟩))
       go_ret; exact ⟨by first | rfl | (simp; done) | (simp [*]; done), by repeat (first | exact Drawn0.refl _ | apply Drawn0.step)⟩
     ·rw [if_neg c5] at H; exact absurd H (by simp)
    ·rw [if_neg c4] at H; exact absurd H (by simp)
   ·rw [if_neg c3] at H; have c3b0 : decide (x9_1 < (l0.length : Int)) = false := decide_eq_false c3; clear c3; obtain rfl := Option.some.inj H
    go_wp2
    go_ret; exact ⟨by first | rfl | (simp; done) | (simp [*]; done), by repeat (first | exact Drawn0.refl _ | apply Drawn0.step)⟩


/-! ### impl_WordOk: function 99 -/
def impl_WordOk.j0 : Nat → Int → Bool → List Int → List Int → Option (Bool)
 | 0, _, _, _, _ => none
 | k + 1, x1, x20, x233000, x233001 => if x20 = true then (some false) else ((impl_areLetters.f k x233000 x1).bind fun t235 => (if t235 = true then ((impl_areLetters.f k x233001 x1).bind fun t236 => (some t236)) else (some false)))
def impl_WordOk.f (k : Nat) (l0_0 : List Int) (l0_1 : List Int) (a1 : Int) : Option (Bool) := (impl_isLetters.f a1).bind fun t233 => (if t233 = true then (if (l0_0.length : Int) > 40 then (impl_WordOk.j0 k a1 true l0_0 l0_1) else ((impl_inRange.f (l0_1.length : Int) 1 40).bind fun t234 => (impl_WordOk.j0 k a1 (!t234) l0_0 l0_1))) else (impl_WordOk.j0 k a1 true l0_0 l0_1))
theorem impl_WordOk.mono_l : ∀ k, (∀ y0 y1 y2 y3, LeO (impl_WordOk.j0 k y0 y1 y2 y3) (impl_WordOk.j0 (k + 1) y0 y1 y2 y3))
 | 0 => fun _ _ _ _ r h => by simp [impl_WordOk.j0] at h
 | k + 1 => by
  have ih0 := impl_WordOk.mono_l k
  ·intro y0 y1 y2 y3
   unfold impl_WordOk.j0
   repeat' first
   | (with_reducible exact ih0 _ _ _ _)
   | (with_reducible exact impl_areLetters.mono _ _ _)
   | (with_reducible exact LeO.refl _)
   | (with_reducible exact LeO.none _)
   | (with_reducible refine LeO.ite ?_ ?_)
   | (with_reducible refine LeO.bind ?_ (fun _ => ?_))
   | exact ih0 _ _ _ _
   | exact impl_areLetters.mono _ _ _
   | exact LeO.none _
   | refine LeO.ite ?_ ?_
   | refine LeO.bind ?_ (fun _ => ?_)
theorem impl_WordOk.mono : ∀ a0 a1 a2 k, LeO (impl_WordOk.f k a0 a1 a2) (impl_WordOk.f (k + 1) a0 a1 a2) := by
 intro a0 a1 a2 k
 have ih0 := impl_WordOk.mono_l k
 unfold impl_WordOk.f
 repeat' first
   | (with_reducible exact ih0 _ _ _ _)
   | (with_reducible exact impl_areLetters.mono _ _ _)
   | (with_reducible exact LeO.refl _)
   | (with_reducible exact LeO.none _)
   | (with_reducible refine LeO.ite ?_ ?_)
   | (with_reducible refine LeO.bind ?_ (fun _ => ?_))
   | exact ih0 _ _ _ _
   | exact impl_areLetters.mono _ _ _
   | exact LeO.none _
   | refine LeO.ite ?_ ?_
   | refine LeO.bind ?_ (fun _ => ?_)
open Go.Proofs.Ytlallflpicgcmaa.Short2 in
set_option maxHeartbeats 8000000 in
set_option maxRecDepth 100000 in
theorem impl_WordOk.calls (k : Nat) (A0_0 : Option Addr) (c0_0 : Nat) (l0_0 : List Int) (A0_1 : Option Addr) (c0_1 : Nat) (l0_1 : List Int) (a1 : Int) (r : Bool) (w : World) (hr0_0 : Kd.C (Kd.int .i64) w A0_0 l0_0.length l0_0) (hc0_0 : l0_0.length ≤ c0_0) (hr0_1 : Kd.C (Kd.int .i64) w A0_1 l0_1.length l0_1) (hc0_1 : l0_1.length ≤ c0_1) (h : impl_WordOk.f k l0_0 l0_1 a1 = some r) :
  Calls Try.prog 99 #[.agg #[.slice A0_0 l0_0.length c0_0, .slice A0_1 l0_1.length c0_1], .int .i64 a1] w fun e w' => e = .returned (.bool r) ∧ Below w.heap.size w w' := by
 have hu78 := Try.underlying78; have HR0_0 := Aside0.mk hr0_0; have HC0_0 := Aside0.mk hc0_0; clear hr0_0 hc0_0; have HR0_1 := Aside0.mk hr0_1; have HC0_1 := Aside0.mk hc0_1; clear hr0_1 hc0_1; have HB := Aside0.mk (Below.refl w.heap.size w); have H : ((impl_isLetters.f a1).bind fun t233 => (if t233 = true then (if (l0_0.length : Int) > 40 then (impl_WordOk.j0 k a1 true l0_0 l0_1) else ((impl_inRange.f (l0_1.length : Int) 1 40).bind fun t234 => (impl_WordOk.j0 k a1 (!t234) l0_0 l0_1))) else (impl_WordOk.j0 k a1 true l0_0 l0_1))) = some r := h; clear h; have HC3 := Aside0.mk H; clear H
 go_enter Try.func99, Try.ntmps99
 go_upto_region 1 with (first | ((with_reducible refine gate_dst (N := 2) rfl ?_); (try (refine gate_guard (by rfl) ?_; dsimp only)); refine box_event ?hg (N := 2) ?hd (cs := #[.slice A0_0 l0_0.length c0_0, .slice A0_1 l0_1.length c0_1]) (t := 78) ?hr ?_; (case hd => rfl); (case hg => rfl); (case hr => first | (go_simp; done) | (go_simp; rfl)); intro gb232 hg w4 hbox hb; have BK232 := Aside0.mk (hbox); have GW232 := xG HB hg; have GE232 := xG HB hg; replace HB := xS HB hb; clear hb hbox hg))
 (try simp only [Act.put, q3])
 go_cut [20] (fun v20 wc => ∃ (kq : Nat) (x20_2 : Bool), v20 = .bool x20_2 ∧ Aside0 (impl_WordOk.j0 kq a1 x20_2 l0_0 l0_1 = some r) ∧ Aside0 (kq ≤ k) ∧ Aside0 (wc.heap[gb232]? = some (.cells #[(.slice A0_0 l0_0.length c0_0), (.slice A0_1 l0_1.length c0_1)] 78 (0, 0))) ∧ Aside0 (Below w.heap.size w wc))
 case first =>
  have H := HC3.out; clear HC3; replace H := Option.bind_eq_some_iff.mp H; obtain ⟨t233, A50, H⟩ := H; replace H : (if t233 = true then (if (l0_0.length : Int) > 40 then (impl_WordOk.j0 k a1 true l0_0 l0_1) else ((impl_inRange.f (l0_1.length : Int) 1 40).bind fun t234 => (impl_WordOk.j0 k a1 (!t234) l0_0 l0_1))) else (impl_WordOk.j0 k a1 true l0_0 l0_1)) = some r := H; have A5 := Aside0.mk A50; clear A50
  by_cases c6 : t233 = true
  ·subst c6
   have H1 : (if (l0_0.length : Int) > 40 then (impl_WordOk.j0 k a1 true l0_0 l0_1) else ((impl_inRange.f (l0_1.length : Int) 1 40).bind fun t234 => (impl_WordOk.j0 k a1 (!t234) l0_0 l0_1))) = some r := by rw [if_pos rfl] at H; exact H
   clear H; have H := H1; clear H1
   by_cases c7 : (l0_0.length : Int) > 40
   ·rw [if_pos c7] at H; have c7b0 : decide (40 < (l0_0.length : Int)) = true := decide_eq_true c7; have c7b1 : decide (40 < l0_0.length) = true := decide_eq_true (by omega); clear c7
    (first | rw [c7b0] | (simp only [i64_w, i32_w]; rw [c7b0]) | skip)
    have H' := Aside0.mk H; clear H
    go_wp2_with (first | ((with_reducible refine gate_callee (f := 59) rfl ?_); refine goesL_ (some 6) rfl rfl Try.func59 (by kernel_rfl) rfl #[.int .i64 a1] rfl (by (try simp only [m3]); first | done | rfl | (simp only [d2]; rfl)) ?_; (with_reducible refine (impl_isLetters.calls a1 true _ A5.out).mono ?_); rintro e w' ⟨rfl, ⟨nd, rfl⟩⟩; refine ⟨_, rfl, ?_⟩; have hcz8_0 : w4.cell? ⟨gb232, 0, none⟩ = some (.slice A0_0 l0_0.length c0_0) := b1 BK232 0; have hcz8_1 : w4.cell? ⟨gb232, 1, none⟩ = some (.slice A0_1 l0_1.length c0_1) := b1 BK232 1; have hfz8_0 := blk_frozen BK232.out 0; have hfz8_1 := blk_frozen BK232.out 1))
    go_meet
    case rel => exact ⟨_, (true), (by first | rfl | (simp; done) | (simp [*]; done) | (rw [Int.tmod_eq_emod_of_nonneg (Int.natCast_nonneg _)]; done)), H', ⟨by first | omega | exact Nat.le_refl _⟩, ⟨zB BK232.out⟩, ⟨zS HB.out⟩⟩
   ·rw [if_neg c7] at H; have c7b0 : decide (40 < (l0_0.length : Int)) = false := decide_eq_false c7; have c7b1 : decide (40 < l0_0.length) = false := decide_eq_false (by omega); clear c7
    (first | rw [c7b0] | (simp only [i64_w, i32_w]; rw [c7b0]) | skip)
    replace H := Option.bind_eq_some_iff.mp H; obtain ⟨t234, A90, H⟩ := H; replace H : (impl_WordOk.j0 k a1 (!t234) l0_0 l0_1) = some r := H; have A9 := Aside0.mk A90; clear A90; have H' := Aside0.mk H; clear H
    go_wp2_with (first | ((with_reducible refine gate_callee (f := 59) rfl ?_); refine goesL_ (some 6) rfl rfl Try.func59 (by kernel_rfl) rfl #[.int .i64 a1] rfl (by (try simp only [m3]); first | done | rfl | (simp only [d2]; rfl)) ?_; (with_reducible refine (impl_isLetters.calls a1 true _ A5.out).mono ?_); rintro e w' ⟨rfl, ⟨nd, rfl⟩⟩; refine ⟨_, rfl, ?_⟩; have hcz10_0 : w4.cell? ⟨gb232, 0, none⟩ = some (.slice A0_0 l0_0.length c0_0) := b1 BK232 0; have hcz10_1 : w4.cell? ⟨gb232, 1, none⟩ = some (.slice A0_1 l0_1.length c0_1) := b1 BK232 1; have hfz10_0 := blk_frozen BK232.out 0; have hfz10_1 := blk_frozen BK232.out 1) | (go_at_call 69; (with_reducible refine (impl_inRange.calls (l0_1.length : Int) 1 40 t234 _ A9.out).mono ?_); rintro e w' ⟨rfl, ⟨nd, rfl⟩⟩))
    go_meet
    case rel => exact ⟨_, (!t234), (by first | rfl | (simp; done) | (simp [*]; done) | (rw [Int.tmod_eq_emod_of_nonneg (Int.natCast_nonneg _)]; done)), H', ⟨by first | omega | exact Nat.le_refl _⟩, ⟨zB BK232.out⟩, ⟨zS HB.out⟩⟩
  ·replace c6 := Bool.eq_false_iff.mpr c6; subst c6
   have H1 : (impl_WordOk.j0 k a1 true l0_0 l0_1) = some r := by rw [if_neg (show ¬ (false = true) by decide)] at H; exact H
   clear H; have H := H1; clear H1; have H' := Aside0.mk H; clear H
   go_wp2_with (first | ((with_reducible refine gate_callee (f := 59) rfl ?_); refine goesL_ (some 6) rfl rfl Try.func59 (by kernel_rfl) rfl #[.int .i64 a1] rfl (by (try simp only [m3]); first | done | rfl | (simp only [d2]; rfl)) ?_; (with_reducible refine (impl_isLetters.calls a1 false _ A5.out).mono ?_); rintro e w' ⟨rfl, ⟨nd, rfl⟩⟩; refine ⟨_, rfl, ?_⟩))
   go_meet
   case rel => exact ⟨_, (true), (by first | rfl | (simp; done) | (simp [*]; done) | (rw [Int.tmod_eq_emod_of_nonneg (Int.natCast_nonneg _)]; done)), H', ⟨by first | omega | exact Nat.le_refl _⟩, ⟨zB BK232.out⟩, ⟨zS HB.out⟩⟩
 case rest =>
  clear HC3
  try clear p2
  try clear c5
  try clear c6
  try clear c7
  try clear c7b0
  try clear c7b1
  try clear c9
  try clear hcz10_0
  try clear hcz10_1
  try clear hcz8_0
  try clear hcz8_1
  try clear hfz10_0
  try clear hfz10_1
  try clear hfz8_0
  try clear hfz8_1
  obtain ⟨kq, x20_2, rfl, HA, HJ2, BK232, HB⟩ := hcut
  cases kq with
  | zero => exact absurd HA.out (by simp [impl_WordOk.j0])
  | succ kj2 =>
   have H := HA.out; clear HA; simp only [impl_WordOk.j0] at H
   by_cases c11 : x20_2 = true
   ·subst c11
    have H1 : (some false) = some r := by rw [if_pos rfl] at H; exact H
    clear H; have H := H1; clear H1; obtain rfl := Option.some.inj H
    go_wp2
    go_ret; exact ⟨by first | rfl | (simp [errW_none, errW_some] <;> rfl) | (simp [*, errW_none, errW_some] <;> rfl), by repeat (first | (with_reducible first | exact HB.out | apply below_alloc | apply pw_below_drewN | apply below_drew1 | refine below_set ?_ GE232.out) | exact HB.out)⟩
   ·replace c11 := Bool.eq_false_iff.mpr c11; subst c11
    have H1 : ((impl_areLetters.f kj2 l0_0 a1).bind fun t235 => (if t235 = true then ((impl_areLetters.f kj2 l0_1 a1).bind fun t236 => (some t236)) else (some false))) = some r := by rw [if_neg (show ¬ (false = true) by decide)] at H; exact H
    clear H; have H := H1; clear H1; replace H := Option.bind_eq_some_iff.mp H; obtain ⟨t235, A120, H⟩ := H; replace H : (if t235 = true then ((impl_areLetters.f kj2 l0_1 a1).bind fun t236 => (some t236)) else (some false)) = some r := H; have A12 := Aside0.mk A120; clear A120
    by_cases c13 : t235 = true
    ·subst c13
     have H1 : ((impl_areLetters.f kj2 l0_1 a1).bind fun t236 => (some t236)) = some r := by rw [if_pos rfl] at H; exact H
     clear H; have H := H1; clear H1; replace H := Option.bind_eq_some_iff.mp H; obtain ⟨t236, A140, H⟩ := H; replace H : (some t236) = some r := H; have A14 := Aside0.mk A140; clear A140; obtain rfl := Option.some.inj H; have hcz15_0 : wc.cell? ⟨gb232, 0, none⟩ = some (.slice A0_0 l0_0.length c0_0) := b1 BK232 0; have hcz15_1 : wc.cell? ⟨gb232, 1, none⟩ = some (.slice A0_1 l0_1.length c0_1) := b1 BK232 1; have hfz15_0 := blk_frozen BK232.out 0; have hfz15_1 := blk_frozen BK232.out 1
     go_wp2_with (first | ((with_reducible refine gate_callee (f := 116) rfl ?_); refine goesL_ (some 24) rfl rfl Try.func116 (by kernel_rfl) rfl #[.slice A0_0 l0_0.length c0_0, .int .i64 a1] rfl (by (try simp only [m3]); first | done | rfl | (simp only [d2]; rfl)) ?_; (with_reducible refine (impl_areLetters.calls kj2 _ _ l0_0 a1 true _ ?side1 ?side2 A12.out).mono ?_); (case side1 => exact zC (Kd.C_below HR0_0.out HB.out)); (case side2 => exact HC0_0.out); rintro e w' ⟨rfl, ⟨nd, rfl⟩⟩; refine ⟨_, rfl, ?_⟩) | (go_at_call 116; (with_reducible refine (impl_areLetters.calls kj2 _ _ l0_1 a1 t236 _ ?side1 ?side2 A14.out).mono ?_); (case side1 => repeat (first | exact (Kd.C_below HR0_1.out (zS HB.out)) | (with_reducible refine Kd.C_alloc ?_ _) | (with_reducible refine Kd.C_drewN ?_ _) | (with_reducible refine Kd.C_drew ?_))); (case side2 => exact HC0_1.out); rintro e w' ⟨rfl, ⟨nd, rfl⟩⟩))
     go_ret; exact ⟨by first | rfl | (simp [errW_none, errW_some] <;> rfl) | (simp [*, errW_none, errW_some] <;> rfl), by repeat (first | (with_reducible first | exact HB.out | apply below_alloc | apply pw_below_drewN | apply below_drew1 | refine below_set ?_ GE232.out) | exact HB.out)⟩
    ·replace c13 := Bool.eq_false_iff.mpr c13; subst c13
     have H1 : (some false) = some r := by rw [if_neg (show ¬ (false = true) by decide)] at H; exact H
     clear H; have H := H1; clear H1; obtain rfl := Option.some.inj H; have hcz16_0 : wc.cell? ⟨gb232, 0, none⟩ = some (.slice A0_0 l0_0.length c0_0) := b1 BK232 0; have hcz16_1 : wc.cell? ⟨gb232, 1, none⟩ = some (.slice A0_1 l0_1.length c0_1) := b1 BK232 1; have hfz16_0 := blk_frozen BK232.out 0; have hfz16_1 := blk_frozen BK232.out 1
     go_wp2_with (first | ((with_reducible refine gate_callee (f := 116) rfl ?_); refine goesL_ (some 24) rfl rfl Try.func116 (by kernel_rfl) rfl #[.slice A0_0 l0_0.length c0_0, .int .i64 a1] rfl (by (try simp only [m3]); first | done | rfl | (simp only [d2]; rfl)) ?_; (with_reducible refine (impl_areLetters.calls kj2 _ _ l0_0 a1 false _ ?side1 ?side2 A12.out).mono ?_); (case side1 => exact zC (Kd.C_below HR0_0.out HB.out)); (case side2 => exact HC0_0.out); rintro e w' ⟨rfl, ⟨nd, rfl⟩⟩; refine ⟨_, rfl, ?_⟩))
     go_ret; exact ⟨by first | rfl | (simp [errW_none, errW_some] <;> rfl) | (simp [*, errW_none, errW_some] <;> rfl), by repeat (first | (with_reducible first | exact HB.out | apply below_alloc | apply pw_below_drewN | apply below_drew1 | refine below_set ?_ GE232.out) | exact HB.out)⟩

/-! ### impl_has: function 110 -/
def impl_has.f (a0 : Int) (a1 : Int) : Option (Bool) := if 0 ≤ (IntKind.u64.wrap (a1)) then (some ((Go.bits .and .i64 (shr .i64 a0 (IntKind.u64.wrap (a1))) 1) == 1)) else (none)
set_option maxHeartbeats 8000000 in
set_option maxRecDepth 100000 in
theorem impl_has.calls (a0 : Int) (a1 : Int) (r : Bool) (w : World) (h : impl_has.f a0 a1 = some r) :
    Calls Try.prog 110 #[.int .i64 a0, .int .i64 a1] w fun e w' => e = .returned (.bool r) ∧ Drawn0 w w' := by
  have H : (if 0 ≤ (IntKind.u64.wrap (a1)) then (some ((Go.bits .and .i64 (shr .i64 a0 (IntKind.u64.wrap (a1))) 1) == 1)) else (none)) = some r := h
  clear h
  obtain ⟨ji3, hji3⟩ : ∃ j_ : Int, (IntKind.u64.wrap (a1)) = j_ := ⟨_, rfl⟩
  replace H : (if 0 ≤ (ji3) then (some ((Go.bits .and .i64 (shr .i64 a0 (ji3)) 1) == 1)) else (none)) = some r := by first | (rw [hji3] at H; exact H) | (simp only [hji3] at H ⊢; exact H)
  by_cases c4 : 0 ≤ (ji3)
  · rw [if_pos c4] at H
    have c4b0 := eq_true c4
    have c4b1 : decide (0 ≤ (ji3)) = true := decide_eq_true c4
    clear c4
    obtain ⟨ji5, hji5⟩ : ∃ j_ : Int, (shr .i64 a0 (ji3)) = j_ := ⟨_, rfl⟩
    replace H : (some ((Go.bits .and .i64 (ji5) 1) == 1)) = some r := by first | (rw [hji5] at H; exact H) | (simp only [hji5] at H ⊢; exact H)
    have hji5_ : (a0 / 2 ^ min (ji3).toNat 64) = ji5 := hji5
    have hji5z : (ji3) ≤ 64 → (a0 / 2 ^ (ji3).toNat) = ji5 := shr_small hji5
    obtain rfl := Option.some.inj H
    go_enter Try.func110, Try.ntmps110
    go_wp2
    go_ret
    exact ⟨by first | rfl | (simp; done) | (simp only [← hji3, ← hji5] <;> (first | rfl | simp)) | (simp [*]; done), by repeat (first | exact Drawn0.refl _ | apply Drawn0.step)⟩
  · rw [if_neg c4] at H
    exact absurd H (by simp)

/-! ### impl_isMember: function 117 -/
def impl_isMember.f (a0 : Int) : Option (Bool) := (impl_inRange.f a0 0 30).bind fun t237 => (some t237)
set_option maxHeartbeats 8000000 in
set_option maxRecDepth 100000 in
theorem impl_isMember.calls (a0 : Int) (r : Bool) (w : World) (h : impl_isMember.f a0 = some r) :
    Calls Try.prog 117 #[.int .i64 a0] w fun e w' => e = .returned (.bool r) ∧ Drawn0 w w' := by
  have H : ((impl_inRange.f a0 0 30).bind fun t237 => (some t237)) = some r := h
  clear h
  replace H := Option.bind_eq_some_iff.mp H
  obtain ⟨t237, A20, H⟩ := H
  replace H : (some t237) = some r := H
  have A2 := Aside0.mk A20
  clear A20
  obtain rfl := Option.some.inj H
  go_enter Try.func117, Try.ntmps117
  go_wp2_with (first | ((with_reducible refine gate_callee (f := 69) rfl ?_); refine goesL_ (some 4) rfl rfl Try.func69 (by kernel_rfl) rfl #[.int .i64 a0, .int .i64 0, .int .i64 30] rfl (by (try simp only [List.map_toArray, List.map_cons, List.map_nil]); first | done | rfl | (simp only [List.length_drop, List.length_take]; rfl)) ?_; (with_reducible refine (impl_inRange.calls a0 0 30 t237 _ A2.out).mono ?_); rintro e w' ⟨rfl, ⟨nd, rfl⟩⟩; refine ⟨_, rfl, ?_⟩))
  go_ret
  exact ⟨by first | rfl | (simp; done) | (simp [*]; done), by repeat (first | exact Drawn0.refl _ | apply Drawn0.step)⟩


/-! ### impl_SetHas: function 100 -/
def impl_SetHas.f (a0 : Int) (a1 : Int) : Option (Bool) := (impl_SetOk.f a0).bind fun t238 => (if t238 = true then ((impl_isMember.f a1).bind fun t239 => (if t239 = true then ((impl_has.f a0 a1).bind fun t240 => (some t240)) else (some false))) else (some false))
open Go.Proofs.Ytlallflpicgcmaa.Short2 in
set_option maxHeartbeats 8000000 in
set_option maxRecDepth 100000 in
theorem impl_SetHas.calls (a0 : Int) (a1 : Int) (r : Bool) (w : World) (h : impl_SetHas.f a0 a1 = some r) :
  Calls Try.prog 100 #[.int .i64 a0, .int .i64 a1] w fun e w' => e = .returned (.bool r) ∧ Drawn0 w w' := by
 have H : ((impl_SetOk.f a0).bind fun t238 => (if t238 = true then ((impl_isMember.f a1).bind fun t239 => (if t239 = true then ((impl_has.f a0 a1).bind fun t240 => (some t240)) else (some false))) else (some false))) = some r := h; clear h; replace H := Option.bind_eq_some_iff.mp H; obtain ⟨t238, A30, H⟩ := H; replace H : (if t238 = true then ((impl_isMember.f a1).bind fun t239 => (if t239 = true then ((impl_has.f a0 a1).bind fun t240 => (some t240)) else (some false))) else (some false)) = some r := H; have A3 := Aside0.mk A30; clear A30
 by_cases c4 : t238 = true
 ·subst c4
  have H1 : ((impl_isMember.f a1).bind fun t239 => (if t239 = true then ((impl_has.f a0 a1).bind fun t240 => (some t240)) else (some false))) = some r := by rw [if_pos rfl] at H; exact H
  clear H; have H := H1; clear H1; replace H := Option.bind_eq_some_iff.mp H; obtain ⟨t239, A50, H⟩ := H; replace H : (if t239 = true then ((impl_has.f a0 a1).bind fun t240 => (some t240)) else (some false)) = some r := H; have A5 := Aside0.mk A50; clear A50
  by_cases c6 : t239 = true
  ·subst c6
   have H1 : ((impl_has.f a0 a1).bind fun t240 => (some t240)) = some r := by rw [if_pos rfl] at H; exact H
   clear H; have H := H1; clear H1; replace H := Option.bind_eq_some_iff.mp H; obtain ⟨t240, A70, H⟩ := H; replace H : (some t240) = some r := H; have A7 := Aside0.mk A70; clear A70; obtain rfl := Option.some.inj H
   go_enter Try.func100, Try.ntmps100
   go_wp2_with (first | ((with_reducible refine gate_callee (f := 78) rfl ?_); refine goesL_ (some 6) rfl rfl Try.func78 (by kernel_rfl) rfl #[.int .i64 a0] rfl (by (try simp only [m3]); first | done | rfl | (simp only [d2]; rfl)) ?_; (with_reducible refine (impl_SetOk.calls a0 true _ A3.out).mono ?_); rintro e w' ⟨rfl, ⟨nd, rfl⟩⟩; refine ⟨_, rfl, ?_⟩) | (go_at_call 117; (with_reducible refine (impl_isMember.calls a1 true _ A5.out).mono ?_); rintro e w' ⟨rfl, ⟨nd, rfl⟩⟩) | (go_at_call 110; (with_reducible refine (impl_has.calls a0 a1 t240 _ A7.out).mono ?_); rintro e w' ⟨rfl, ⟨nd, rfl⟩⟩))
   go_ret; exact ⟨by first | rfl | (simp; done) | (simp [*]; done), by repeat (first | exact Drawn0.refl _ | apply Drawn0.step)⟩
  ·replace c6 := Bool.eq_false_iff.mpr c6; subst c6
   have H1 : (some false) = some r := by rw [if_neg (show ¬ (false = true) by decide)] at H; exact H
   clear H; have H := H1; clear H1; obtain rfl := Option.some.inj H
   go_enter Try.func100, Try.ntmps100
   go_wp2_with (first | ((with_reducible refine gate_callee (f := 78) rfl ?_); refine goesL_ (some 6) rfl rfl Try.func78 (by kernel_rfl) rfl #[.int .i64 a0] rfl (by (try simp only [m3]); first | done | rfl | (simp only [d2]; rfl)) ?_; (with_reducible refine (impl_SetOk.calls a0 true _ A3.out).mono ?_); rintro e w' ⟨rfl, ⟨nd, rfl⟩⟩; refine ⟨_, rfl, ?_⟩) | (go_at_call 117; (with_reducible refine (impl_isMember.calls a1 false _ A5.out).mono ?_); rintro e w' ⟨rfl, ⟨nd, rfl⟩⟩))
   go_ret; exact ⟨by first | rfl | (simp; done) | (simp [*]; done), by repeat (first | exact Drawn0.refl _ | apply Drawn0.step)⟩
 ·replace c4 := Bool.eq_false_iff.mpr c4; subst c4
  have H1 : (some false) = some r := by rw [if_neg (show ¬ (false = true) by decide)] at H; exact H
  clear H; have H := H1; clear H1; obtain rfl := Option.some.inj H
  go_enter Try.func100, Try.ntmps100
  go_wp2_with (first | ((with_reducible refine gate_callee (f := 78) rfl ?_); refine goesL_ (some 6) rfl rfl Try.func78 (by kernel_rfl) rfl #[.int .i64 a0] rfl (by (try simp only [m3]); first | done | rfl | (simp only [d2]; rfl)) ?_; (with_reducible refine (impl_SetOk.calls a0 false _ A3.out).mono ?_); rintro e w' ⟨rfl, ⟨nd, rfl⟩⟩; refine ⟨_, rfl, ?_⟩))
  go_ret; exact ⟨by first | rfl | (simp; done) | (simp [*]; done), by repeat (first | exact Drawn0.refl _ | apply Drawn0.step)⟩

end Go.Proofs.Ytlallflpicgcmaa.MFnExactRunOk
