-- Written by a program of this session, out of Lean's print of the translation. Not trusted: Lean checks it.
import Derived.Test.YtlallflpicgcmaaMFnExactGenOfx0
import Derived.Test.YtlallflpicgcmaaMFnExactGenOfx4
namespace Go.Proofs.Ytlallflpicgcmaa.MFnExactGenOf
open Go.RowKit Go.Proofs.YtlallflpicgcmaaW.PrintWords Go.Proofs.YtlallflpicgcmaaW.PrintLast Go.Proofs.YtlallflpicgcmaaW.PrintMore
attribute [local go_sem] max2_int min2_int max_two min_two max_three min_three max_four min_four   -- for this text's walks alone
set_option linter.unusedVariables false
set_option linter.unusedSimpArgs false

section
open Go.Proofs.Ytlallflpicgcmaa.Short2.T
abbrev impl_AutoOk.bl0 : Array Bool := #[f, f, f, f, f, f, f, f, f, f, f, f, f]
abbrev impl_AutoOk.bl1 : Array Bool := #[t, f, f, f, f, f, f, f, f, f, f, f, f]
abbrev impl_AutoOk.bl2 : Array Bool := #[t, t, f, f, f, f, f, f, f, f, f, f, f]
abbrev impl_AutoOk.bl3 : Array Bool := #[t, t, t, f, f, f, f, f, f, f, f, f, f]
abbrev impl_AutoOk.bl4 : Array Bool := #[t, t, t, t, f, f, f, f, f, f, f, f, f]
abbrev impl_AutoOk.bl5 : Array Bool := #[t, t, t, t, f, t, f, f, f, f, f, f, f]
abbrev impl_AutoOk.bl6 : Array Bool := #[t, t, t, t, f, t, t, f, f, f, f, f, f]
abbrev impl_AutoOk.bl7 : Array Bool := #[t, t, t, t, t, t, t, f, f, f, f, f, f]
abbrev impl_AutoOk.bl8 : Array Bool := #[t, t, t, t, t, t, t, t, f, f, f, f, f]
abbrev impl_AutoOk.bl9 : Array Bool := #[t, t, t, t, t, t, t, t, t, f, f, f, f]
abbrev impl_AutoOk.bl10 : Array Bool := #[t, t, t, t, t, t, t, t, t, t, f, f, f]
abbrev impl_AutoOk.bl11 : Array Bool := #[t, t, t, t, t, t, t, t, t, t, t, f, f]
abbrev impl_AutoOk.bl12 : Array Bool := #[t, t, t, t, t, t, t, t, t, t, t, t, f]
abbrev impl_AutoOk.bl13 : Array Bool := #[t, t, t, t, t, t, t, t, t, t, t, t, t]
abbrev impl_AutoOk.bl14 : Array Bool := #[t, t, t, t, t, f, f, f, f, f, f, f, f]
abbrev impl_AutoOk.bl15 : Array Bool := #[t, t, t, t, t, t, f, f, f, f, f, f, f]
end
/-! ### impl_AutoOk: function 22 -/
mutual
def impl_AutoOk.j0 : Nat → Bool → Int → Int → Int → List (S68) → Option (Bool)
 | 0, _, _, _, _, _ => none
 | k + 1, x18, x192000, x192001, x192002, x192003 => if x18 = true then (some false) else (impl_AutoOk.l0 k x192003 (x192003.length : Int) 0 x192000 x192001 x192002 x192003)
def impl_AutoOk.l0 : Nat → List (S68) → Int → Int → Int → Int → Int → List (S68) → Option (Bool)
 | 0, _, _, _, _, _, _, _ => none
 | k + 1, x20, x21, x22, x192000, x192001, x192002, x192003 => if x22 < x21 then (if 0 ≤ x22 then (if x22 < (x20.length : Int) then ((impl_inRange.f ((rd_T68 x20 x22).f0) 0 (wrap64 (x192001 - 1))).bind fun t195 => (if t195 = true then ((impl_inRange.f ((rd_T68 x20 x22).f2) 0 (wrap64 (x192001 - 1))).bind fun t196 => (if t196 = true then ((impl_inRange.f ((rd_T68 x20 x22).f1) 0 (wrap64 (x192000 - 1))).bind fun t197 => (impl_AutoOk.j2 k x22 x20 x21 x22 (!t197) x192000 x192001 x192002 x192003 ((rd_T68 x20 x22).f0) ((rd_T68 x20 x22).f1) ((rd_T68 x20 x22).f2) ((rd_T68 x20 x22).f3))) else (impl_AutoOk.j2 k x22 x20 x21 x22 true x192000 x192001 x192002 x192003 ((rd_T68 x20 x22).f0) ((rd_T68 x20 x22).f1) ((rd_T68 x20 x22).f2) ((rd_T68 x20 x22).f3)))) else (impl_AutoOk.j2 k x22 x20 x21 x22 true x192000 x192001 x192002 x192003 ((rd_T68 x20 x22).f0) ((rd_T68 x20 x22).f1) ((rd_T68 x20 x22).f2) ((rd_T68 x20 x22).f3)))) else (none)) else (none)) else (some true)
def impl_AutoOk.j2 : Nat → Int → List (S68) → Int → Int → Bool → Int → Int → Int → List (S68) → Int → Int → Int → Bool → Option (Bool)
 | 0, _, _, _, _, _, _, _, _, _, _, _, _, _ => none
 | k + 1, x3, x20, x21, x22, x51, x192000, x192001, x192002, x192003, x195000, x195001, x195002, x195003 => if x51 = true then (some false) else (if x3 > 0 then (if 0 ≤ (wrap64 (x3 - 1)) then (if (wrap64 (x3 - 1)) < (x192003.length : Int) then ((impl_compareEdges.f k ((rd_T68 x192003 (wrap64 (x3 - 1))).f0) ((rd_T68 x192003 (wrap64 (x3 - 1))).f1) ((rd_T68 x192003 (wrap64 (x3 - 1))).f2) ((rd_T68 x192003 (wrap64 (x3 - 1))).f3) x195000 x195001 x195002 x195003).bind fun t199 => (if t199 ≥ 0 then (some false) else (impl_AutoOk.l0 k x20 x21 (wrap64 (x22 + 1)) x192000 x192001 x192002 x192003))) else (none)) else (none)) else (impl_AutoOk.l0 k x20 x21 (wrap64 (x22 + 1)) x192000 x192001 x192002 x192003))
end
def impl_AutoOk.f (k : Nat) (a0_0 : Int) (a0_1 : Int) (a0_2 : Int) (l0_3 : List (S68)) : Option (Bool) := (impl_headOk.f a0_0 a0_1 a0_2).bind fun t192 => (if t192 = true then (impl_AutoOk.j0 k (decide ((l0_3.length : Int) > 2000)) a0_0 a0_1 a0_2 l0_3) else (impl_AutoOk.j0 k true a0_0 a0_1 a0_2 l0_3))
theorem impl_AutoOk.mono_l : ∀ k, (∀ y0 y1 y2 y3 y4, LeO (impl_AutoOk.j0 k y0 y1 y2 y3 y4) (impl_AutoOk.j0 (k + 1) y0 y1 y2 y3 y4)) ∧ (∀ y0 y1 y2 y3 y4 y5 y6, LeO (impl_AutoOk.l0 k y0 y1 y2 y3 y4 y5 y6) (impl_AutoOk.l0 (k + 1) y0 y1 y2 y3 y4 y5 y6)) ∧ (∀ y0 y1 y2 y3 y4 y5 y6 y7 y8 y9 y10 y11 y12, LeO (impl_AutoOk.j2 k y0 y1 y2 y3 y4 y5 y6 y7 y8 y9 y10 y11 y12) (impl_AutoOk.j2 (k + 1) y0 y1 y2 y3 y4 y5 y6 y7 y8 y9 y10 y11 y12))
 | 0 => ⟨fun _ _ _ _ _ r h => by simp [impl_AutoOk.j0] at h, fun _ _ _ _ _ _ _ r h => by simp [impl_AutoOk.l0] at h, fun _ _ _ _ _ _ _ _ _ _ _ _ _ r h => by simp [impl_AutoOk.j2] at h⟩
 | k + 1 => by
  obtain ⟨ih0, ih1, ih2⟩ := impl_AutoOk.mono_l k
  refine ⟨?_, ?_, ?_⟩
  ·intro y0 y1 y2 y3 y4
   unfold impl_AutoOk.j0
   repeat' first
   | (with_reducible exact ih0 _ _ _ _ _)
   | (with_reducible exact ih1 _ _ _ _ _ _ _)
   | (with_reducible exact ih2 _ _ _ _ _ _ _ _ _ _ _ _ _)
   | (with_reducible exact impl_compareEdges.mono _ _ _ _ _ _ _ _ _)
   | (with_reducible exact LeO.refl _)
   | (with_reducible exact LeO.none _)
   | (with_reducible refine LeO.ite ?_ ?_)
   | (with_reducible refine LeO.bind ?_ (fun _ => ?_))
   | exact ih0 _ _ _ _ _
   | exact ih1 _ _ _ _ _ _ _
   | exact ih2 _ _ _ _ _ _ _ _ _ _ _ _ _
   | exact impl_compareEdges.mono _ _ _ _ _ _ _ _ _
   | exact LeO.none _
   | refine LeO.ite ?_ ?_
   | refine LeO.bind ?_ (fun _ => ?_)
  ·intro y0 y1 y2 y3 y4 y5 y6
   unfold impl_AutoOk.l0
   repeat' first
   | (with_reducible exact ih0 _ _ _ _ _)
   | (with_reducible exact ih1 _ _ _ _ _ _ _)
   | (with_reducible exact ih2 _ _ _ _ _ _ _ _ _ _ _ _ _)
   | (with_reducible exact impl_compareEdges.mono _ _ _ _ _ _ _ _ _)
   | (with_reducible exact LeO.refl _)
   | (with_reducible exact LeO.none _)
   | (with_reducible refine LeO.ite ?_ ?_)
   | (with_reducible refine LeO.bind ?_ (fun _ => ?_))
   | exact ih0 _ _ _ _ _
   | exact ih1 _ _ _ _ _ _ _
   | exact ih2 _ _ _ _ _ _ _ _ _ _ _ _ _
   | exact impl_compareEdges.mono _ _ _ _ _ _ _ _ _
   | exact LeO.none _
   | refine LeO.ite ?_ ?_
   | refine LeO.bind ?_ (fun _ => ?_)
  ·intro y0 y1 y2 y3 y4 y5 y6 y7 y8 y9 y10 y11 y12
   unfold impl_AutoOk.j2
   repeat' first
   | (with_reducible exact ih0 _ _ _ _ _)
   | (with_reducible exact ih1 _ _ _ _ _ _ _)
   | (with_reducible exact ih2 _ _ _ _ _ _ _ _ _ _ _ _ _)
   | (with_reducible exact impl_compareEdges.mono _ _ _ _ _ _ _ _ _)
   | (with_reducible exact LeO.refl _)
   | (with_reducible exact LeO.none _)
   | (with_reducible refine LeO.ite ?_ ?_)
   | (with_reducible refine LeO.bind ?_ (fun _ => ?_))
   | exact ih0 _ _ _ _ _
   | exact ih1 _ _ _ _ _ _ _
   | exact ih2 _ _ _ _ _ _ _ _ _ _ _ _ _
   | exact impl_compareEdges.mono _ _ _ _ _ _ _ _ _
   | exact LeO.none _
   | refine LeO.ite ?_ ?_
   | refine LeO.bind ?_ (fun _ => ?_)
theorem impl_AutoOk.mono : ∀ a0 a1 a2 a3 k, LeO (impl_AutoOk.f k a0 a1 a2 a3) (impl_AutoOk.f (k + 1) a0 a1 a2 a3) := by
 intro a0 a1 a2 a3 k
 obtain ⟨ih0, ih1, ih2⟩ := impl_AutoOk.mono_l k
 unfold impl_AutoOk.f
 repeat' first
   | (with_reducible exact ih0 _ _ _ _ _)
   | (with_reducible exact ih1 _ _ _ _ _ _ _)
   | (with_reducible exact ih2 _ _ _ _ _ _ _ _ _ _ _ _ _)
   | (with_reducible exact impl_compareEdges.mono _ _ _ _ _ _ _ _ _)
   | (with_reducible exact LeO.refl _)
   | (with_reducible exact LeO.none _)
   | (with_reducible refine LeO.ite ?_ ?_)
   | (with_reducible refine LeO.bind ?_ (fun _ => ?_))
   | exact ih0 _ _ _ _ _
   | exact ih1 _ _ _ _ _ _ _
   | exact ih2 _ _ _ _ _ _ _ _ _ _ _ _ _
   | exact impl_compareEdges.mono _ _ _ _ _ _ _ _ _
   | exact LeO.none _
   | refine LeO.ite ?_ ?_
   | refine LeO.bind ?_ (fun _ => ?_)
def impl_AutoOk.T8 : Bool × List (List Nat × List Nat) := (true, [([], []), ([0], [0]), ([1], [1]), ([2], [2]), ([3, 2], [2, 3]), ([2], [2]), ([5, 2], [2, 5]), ([4, 6, 2], [2, 4, 6]), ([7, 2], [2, 7]), ([2], [2]), ([8, 9, 2, 2], [2, 8, 9]), ([10, 2], [2, 10]), ([2, 11], [2, 11])])
def impl_AutoOk.B8 : List Nat := [0, 1, 3, 7, 15, 7, 39, 127, 255, 7, 1023, 2047, 4095]
theorem impl_AutoOk.tab8 : rtab .any (opsOf Try.f22 8) = impl_AutoOk.T8 := by kernel_rfl
theorem impl_AutoOk.bits8 : waitsOk impl_AutoOk.T8.2 impl_AutoOk.B8 = true := by kernel_rfl
open Go.Proofs.Ytlallflpicgcmaa.Short2 in
set_option maxHeartbeats 8000000 in
set_option maxRecDepth 100000 in
theorem impl_AutoOk.calls (k : Nat) (a0_0 : Int) (a0_1 : Int) (a0_2 : Int) (A0_3 : Option Addr) (c0_3 : Nat) (l0_3 : List (S68)) (r : Bool) (w : World) (hr0_3 : Kd.C k68 w A0_3 l0_3.length l0_3) (hc0_3 : l0_3.length ≤ c0_3) (h : impl_AutoOk.f k a0_0 a0_1 a0_2 l0_3 = some r) :
  Calls Try.prog 22 #[.agg #[.int .i64 a0_0, .int .i64 a0_1, .int .i64 a0_2, .slice A0_3 l0_3.length c0_3]] w fun e w' => e = .returned (.bool r) ∧ Below w.heap.size w w' := by
 have hu24 := Try.underlying24; have hu68 := Try.underlying68; have HR0_3 := Aside0.mk hr0_3; have HC0_3 := Aside0.mk hc0_3; clear hr0_3 hc0_3; have HB := Aside0.mk (Below.refl w.heap.size w); have H : ((impl_headOk.f a0_0 a0_1 a0_2).bind fun t192 => (if t192 = true then (impl_AutoOk.j0 k (decide ((l0_3.length : Int) > 2000)) a0_0 a0_1 a0_2 l0_3) else (impl_AutoOk.j0 k true a0_0 a0_1 a0_2 l0_3))) = some r := h; clear h; have HC2 := Aside0.mk H; clear H
 go_enter Try.func22, Try.ntmps22
 go_upto_region 1 with (first | ((with_reducible refine gate_dst (N := 1) rfl ?_); (try (refine gate_guard (by rfl) ?_; dsimp only)); refine box_event ?hg (N := 1) ?hd (cs := #[.int .i64 a0_0, .int .i64 a0_1, .int .i64 a0_2, .slice A0_3 l0_3.length c0_3]) (t := 24) ?hr ?_; (case hd => rfl); (case hg => rfl); (case hr => first | (go_simp; done) | (go_simp; rfl)); intro gb191 hg w3 hbox hb; have BK191 := Aside0.mk (hbox); have GW191 := xG HB hg; have GE191 := xG HB hg; replace HB := xS HB hb; clear hb hbox hg))
 (try simp only [Act.put, q3])
 go_cut [18] (fun v18 wc => ∃ (kq : Nat) (x18_1 : Bool), v18 = .bool x18_1 ∧ Aside0 (impl_AutoOk.j0 kq x18_1 a0_0 a0_1 a0_2 l0_3 = some r) ∧ Aside0 (kq ≤ k) ∧ Aside0 (wc.heap[gb191]? = some (.cells #[.int .i64 a0_0, .int .i64 a0_1, .int .i64 a0_2, (.slice A0_3 l0_3.length c0_3)] 24 (0, 0))) ∧ Aside0 (Below w.heap.size w wc))
 case first =>
  have H := HC2.out; clear HC2; replace H := Option.bind_eq_some_iff.mp H; obtain ⟨t192, A40, H⟩ := H; replace H : (if t192 = true then (impl_AutoOk.j0 k (decide ((l0_3.length : Int) > 2000)) a0_0 a0_1 a0_2 l0_3) else (impl_AutoOk.j0 k true a0_0 a0_1 a0_2 l0_3)) = some r := H; have A4 := Aside0.mk A40; clear A40
  by_cases c5 : t192 = true
  ·subst c5
   have H1 : (impl_AutoOk.j0 k (decide ((l0_3.length : Int) > 2000)) a0_0 a0_1 a0_2 l0_3) = some r := by rw [if_pos rfl] at H; exact H
   clear H; have H := H1; clear H1; have H' := Aside0.mk H; clear H; have hcz6_0 : w3.cell? ⟨gb191, 0, none⟩ = some (.int .i64 a0_0) := b1 BK191 0; have hcz6_1 : w3.cell? ⟨gb191, 1, none⟩ = some (.int .i64 a0_1) := b1 BK191 1; have hcz6_2 : w3.cell? ⟨gb191, 2, none⟩ = some (.int .i64 a0_2) := b1 BK191 2; have hcz6_3 : w3.cell? ⟨gb191, 3, none⟩ = some (.slice A0_3 l0_3.length c0_3) := b1 BK191 3; have hfz6_0 := blk_frozen BK191.out 0; have hfz6_1 := blk_frozen BK191.out 1; have hfz6_2 := blk_frozen BK191.out 2; have hfz6_3 := blk_frozen BK191.out 3
   go_wp2_with (first | ((with_reducible refine gate_callee (f := 68) rfl ?_); refine goesL_ (some 11) rfl rfl Try.func68 (by kernel_rfl) rfl #[.int .i64 a0_0, .int .i64 a0_1, .int .i64 a0_2] rfl (by (try simp only [m3]); first | done | rfl | (simp only [d2]; rfl)) ?_; (with_reducible refine (impl_headOk.calls a0_0 a0_1 a0_2 true _ A4.out).mono ?_); rintro e w' ⟨rfl, ⟨nd, rfl⟩⟩; refine ⟨_, rfl, ?_⟩))
   go_meet
   case rel => exact ⟨_, (decide ((l0_3.length : Int) > 2000)), (by first | rfl | (simp; done) | (simp [*]; done)), H', ⟨by first | omega | exact Nat.le_refl _⟩, ⟨zB BK191.out⟩, ⟨zS HB.out⟩⟩
  ·replace c5 := Bool.eq_false_iff.mpr c5; subst c5
   have H1 : (impl_AutoOk.j0 k true a0_0 a0_1 a0_2 l0_3) = some r := by rw [if_neg (show ¬ (false = true) by decide)] at H; exact H
   clear H; have H := H1; clear H1; have H' := Aside0.mk H; clear H; have hcz7_0 : w3.cell? ⟨gb191, 0, none⟩ = some (.int .i64 a0_0) := b1 BK191 0; have hcz7_1 : w3.cell? ⟨gb191, 1, none⟩ = some (.int .i64 a0_1) := b1 BK191 1; have hcz7_2 : w3.cell? ⟨gb191, 2, none⟩ = some (.int .i64 a0_2) := b1 BK191 2; have hcz7_3 : w3.cell? ⟨gb191, 3, none⟩ = some (.slice A0_3 l0_3.length c0_3) := b1 BK191 3; have hfz7_0 := blk_frozen BK191.out 0; have hfz7_1 := blk_frozen BK191.out 1; have hfz7_2 := blk_frozen BK191.out 2; have hfz7_3 := blk_frozen BK191.out 3
   go_wp2_with (first | ((with_reducible refine gate_callee (f := 68) rfl ?_); refine goesL_ (some 11) rfl rfl Try.func68 (by kernel_rfl) rfl #[.int .i64 a0_0, .int .i64 a0_1, .int .i64 a0_2] rfl (by (try simp only [m3]); first | done | rfl | (simp only [d2]; rfl)) ?_; (with_reducible refine (impl_headOk.calls a0_0 a0_1 a0_2 false _ A4.out).mono ?_); rintro e w' ⟨rfl, ⟨nd, rfl⟩⟩; refine ⟨_, rfl, ?_⟩))
   go_meet
   case rel => exact ⟨_, (true), (by first | rfl | (simp; done) | (simp [*]; done)), H', ⟨by first | omega | exact Nat.le_refl _⟩, ⟨zB BK191.out⟩, ⟨zS HB.out⟩⟩
 case rest =>
  clear HC2
  try clear c2
  try clear p2
  try clear c5
  try clear c6
  try clear hcz6_0
  try clear hcz6_1
  try clear hcz6_2
  try clear hcz6_3
  try clear hcz7_0
  try clear hcz7_1
  try clear hcz7_2
  try clear hcz7_3
  try clear hfz6_0
  try clear hfz6_1
  try clear hfz6_2
  try clear hfz6_3
  try clear hfz7_0
  try clear hfz7_1
  try clear hfz7_2
  try clear hfz7_3
  obtain ⟨kq, x18_1, rfl, HA, HJ1, BK191, HB⟩ := hcut
  cases kq with
  | zero => exact absurd HA.out (by simp [impl_AutoOk.j0])
  | succ kj1 =>
   have H := HA.out; clear HA; simp only [impl_AutoOk.j0] at H
   by_cases c8 : x18_1 = true
   ·subst c8
    have H1 : (some false) = some r := by rw [if_pos rfl] at H; exact H
    clear H; have H := H1; clear H1; obtain rfl := Option.some.inj H
    go_wp2
    go_ret; exact ⟨by first | rfl | (simp [errW_none, errW_some] <;> rfl) | (simp [*, errW_none, errW_some] <;> rfl), by repeat (first | (with_reducible first | exact HB.out | apply below_alloc | apply pw_below_drewN | apply below_drew1 | refine below_set ?_ GE191.out) | exact HB.out)⟩
   ·replace c8 := Bool.eq_false_iff.mpr c8; subst c8
    have H1 : (impl_AutoOk.l0 kj1 l0_3 (l0_3.length : Int) 0 a0_0 a0_1 a0_2 l0_3) = some r := by rw [if_neg (show ¬ (false = true) by decide)] at H; exact H
    clear H; have H := H1; clear H1; have H' := Aside0.mk H; clear H; have hcz9_0 : wc.cell? ⟨gb191, 0, none⟩ = some (.int .i64 a0_0) := b1 BK191 0; have hcz9_1 : wc.cell? ⟨gb191, 1, none⟩ = some (.int .i64 a0_1) := b1 BK191 1; have hcz9_2 : wc.cell? ⟨gb191, 2, none⟩ = some (.int .i64 a0_2) := b1 BK191 2; have hcz9_3 : wc.cell? ⟨gb191, 3, none⟩ = some (.slice A0_3 l0_3.length c0_3) := b1 BK191 3; have hfz9_0 := blk_frozen BK191.out 0; have hfz9_1 := blk_frozen BK191.out 1; have hfz9_2 := blk_frozen BK191.out 2; have hfz9_3 := blk_frozen BK191.out 3
    go_wp2
    go_loopg [22] kj1 (fun kq v22 w' => ∃ (x22_2 : Int), v22 = .int .i64 x22_2 ∧ Aside0 (impl_AutoOk.l0 kq l0_3 (l0_3.length : Int) x22_2 a0_0 a0_1 a0_2 l0_3 = some r) ∧ Aside0 (kq ≤ kj1) ∧ Aside0 (w'.heap[gb191]? = some (.cells #[.int .i64 a0_0, .int .i64 a0_1, .int .i64 a0_2, (.slice A0_3 l0_3.length c0_3)] 24 (0, 0))) ∧ Aside0 (Below w.heap.size w w'))
    case atStart => exact ⟨(0), (by first | rfl | (simp; done) | (simp [*]; done)), H', ⟨Nat.le_refl _⟩, ⟨zB BK191.out⟩, ⟨zS HB.out⟩⟩
    case round =>
     clear H'
     try clear c2
     try clear p2
     try clear c5
     try clear c6
     try clear c8
     try clear hcz6_0
     try clear hcz6_1
     try clear hcz6_2
     try clear hcz6_3
     try clear hcz7_0
     try clear hcz7_1
     try clear hcz7_2
     try clear hcz7_3
     try clear hcz9_0
     try clear hcz9_1
     try clear hcz9_2
     try clear hcz9_3
     try clear hfz6_0
     try clear hfz6_1
     try clear hfz6_2
     try clear hfz6_3
     try clear hfz7_0
     try clear hfz7_1
     try clear hfz7_2
     try clear hfz7_3
     try clear hfz9_0
     try clear hfz9_1
     try clear hfz9_2
     try clear hfz9_3
     try clear p2
     obtain ⟨x22_2, rfl, HA, HK2, BK191, HB⟩ := hrel
     cases gk with
     | zero => exact absurd HA.out (by simp [impl_AutoOk.l0])
     | succ k2 =>
      have H := HA.out; clear HA; simp only [impl_AutoOk.l0] at H
      by_cases c10 : x22_2 < (l0_3.length : Int)
      ·rw [if_pos c10] at H; have c10b0 : decide (x22_2 < (l0_3.length : Int)) = true := decide_eq_true c10; clear c10
       by_cases c11 : 0 ≤ x22_2
       ·rw [if_pos c11] at H; have c11b0 : decide (0 ≤ x22_2) = true := decide_eq_true c11; clear c11
        by_cases c12 : x22_2 < (l0_3.length : Int)
        ·rw [if_pos c12] at H; have c12b0 : decide (x22_2 < (l0_3.length : Int)) = true := decide_eq_true c12; clear c12; have HC13 := Aside0.mk H; clear H; have p193 : 0 ≤ (x22_2 : Int) := of_decide_eq_true (by first | (with_reducible assumption) | assumption); have q193 : x22_2 < (l0_3.length : Int) := of_decide_eq_true (by first | (with_reducible assumption) | assumption); obtain ⟨ad193, e193, hx193_0, hx193_1, hx193_2, hx193_3⟩ := at_T68 HR0_3.out x22_2 p193 q193
         cases e193
         replace hx193_0 := (HB.out.cell (World.block_lt_of_cell? w _ hx193_0)).trans hx193_0; replace hx193_1 := (HB.out.cell (World.block_lt_of_cell? w _ hx193_1)).trans hx193_1; replace hx193_2 := (HB.out.cell (World.block_lt_of_cell? w _ hx193_2)).trans hx193_2; replace hx193_3 := (HB.out.cell (World.block_lt_of_cell? w _ hx193_3)).trans hx193_3; replace p193 := eq_true p193; replace q193 := eq_true q193
         go_upto_region 6 with (first | ((with_reducible refine gate_dst (N := 4) rfl ?_); (try (refine gate_guard (by rfl) ?_; dsimp only)); refine box_event ?hg (N := 4) ?hd (cs := #[.int .i64 0, .int .i64 0, .int .i64 0, .bool false]) (t := 68) ?hr ?_; (case hd => rfl); (case hg => rfl); (case hr => first | (go_simp; done) | (go_simp; rfl)); intro gb194 hg w14 hbox hb; have BK194 := Aside0.mk (hbox); have GW194 := xG HB hg; have GE194 := xG HB hg; replace HB := xS HB hb; have NB191_194 := xN BK191 hg; have NB194_191 := xM BK191 hg; replace BK191 := xB BK191 hb; clear hb hbox hg; have hnb15 := NB194_191.out; have hnc15 := NB191_194.out; have hcz16_0 : w14.cell? ⟨gb194, 0, none⟩ = some (.int .i64 0) := b1 BK194 0; have hcz16_1 : w14.cell? ⟨gb194, 1, none⟩ = some (.int .i64 0) := b1 BK194 1; have hcz16_2 : w14.cell? ⟨gb194, 2, none⟩ = some (.int .i64 0) := b1 BK194 2; have hcz16_3 : w14.cell? ⟨gb194, 3, none⟩ = some (.bool false) := b1 BK194 3; have hfz16_0 := blk_frozen BK194.out 0; have hfz16_1 := blk_frozen BK194.out 1; have hfz16_2 := blk_frozen BK194.out 2; have hfz16_3 := blk_frozen BK194.out 3))
         (try simp only [Act.put, q3])
         go_cut [51] (fun v51 wc => ∃ (kq : Nat) (x51_12 : Bool), v51 = .bool x51_12 ∧ Aside0 (impl_AutoOk.j2 kq x22_2 l0_3 (l0_3.length : Int) x22_2 x51_12 a0_0 a0_1 a0_2 l0_3 ((rd_T68 l0_3 x22_2).f0) ((rd_T68 l0_3 x22_2).f1) ((rd_T68 l0_3 x22_2).f2) ((rd_T68 l0_3 x22_2).f3) = some r) ∧ Aside0 (kq ≤ k2) ∧ Aside0 (wc.heap[gb191]? = some (.cells #[.int .i64 a0_0, .int .i64 a0_1, .int .i64 a0_2, (.slice (some ad193) l0_3.length c0_3)] 24 (0, 0))) ∧ Aside0 (wc.heap[gb194]? = some (.cells #[.int .i64 ((rd_T68 l0_3 x22_2).f0), .int .i64 ((rd_T68 l0_3 x22_2).f1), .int .i64 ((rd_T68 l0_3 x22_2).f2), .bool ((rd_T68 l0_3 x22_2).f3)] 68 (0, 0))) ∧ Aside0 (Below w.heap.size w wc))
         case first =>
          have H := HC13.out; clear HC13; replace H := Option.bind_eq_some_iff.mp H; obtain ⟨t195, A170, H⟩ := H; replace H : (if t195 = true then ((impl_inRange.f ((rd_T68 l0_3 x22_2).f2) 0 (wrap64 (a0_1 - 1))).bind fun t196 => (if t196 = true then ((impl_inRange.f ((rd_T68 l0_3 x22_2).f1) 0 (wrap64 (a0_0 - 1))).bind fun t197 => (impl_AutoOk.j2 k2 x22_2 l0_3 (l0_3.length : Int) x22_2 (!t197) a0_0 a0_1 a0_2 l0_3 ((rd_T68 l0_3 x22_2).f0) ((rd_T68 l0_3 x22_2).f1) ((rd_T68 l0_3 x22_2).f2) ((rd_T68 l0_3 x22_2).f3))) else (impl_AutoOk.j2 k2 x22_2 l0_3 (l0_3.length : Int) x22_2 true a0_0 a0_1 a0_2 l0_3 ((rd_T68 l0_3 x22_2).f0) ((rd_T68 l0_3 x22_2).f1) ((rd_T68 l0_3 x22_2).f2) ((rd_T68 l0_3 x22_2).f3)))) else (impl_AutoOk.j2 k2 x22_2 l0_3 (l0_3.length : Int) x22_2 true a0_0 a0_1 a0_2 l0_3 ((rd_T68 l0_3 x22_2).f0) ((rd_T68 l0_3 x22_2).f1) ((rd_T68 l0_3 x22_2).f2) ((rd_T68 l0_3 x22_2).f3))) = some r := H; have A17 := Aside0.mk A170; clear A170
          by_cases c18 : t195 = true
          ·subst c18
           have H1 : ((impl_inRange.f ((rd_T68 l0_3 x22_2).f2) 0 (wrap64 (a0_1 - 1))).bind fun t196 => (if t196 = true then ((impl_inRange.f ((rd_T68 l0_3 x22_2).f1) 0 (wrap64 (a0_0 - 1))).bind fun t197 => (impl_AutoOk.j2 k2 x22_2 l0_3 (l0_3.length : Int) x22_2 (!t197) a0_0 a0_1 a0_2 l0_3 ((rd_T68 l0_3 x22_2).f0) ((rd_T68 l0_3 x22_2).f1) ((rd_T68 l0_3 x22_2).f2) ((rd_T68 l0_3 x22_2).f3))) else (impl_AutoOk.j2 k2 x22_2 l0_3 (l0_3.length : Int) x22_2 true a0_0 a0_1 a0_2 l0_3 ((rd_T68 l0_3 x22_2).f0) ((rd_T68 l0_3 x22_2).f1) ((rd_T68 l0_3 x22_2).f2) ((rd_T68 l0_3 x22_2).f3)))) = some r := by rw [if_pos rfl] at H; exact H
           clear H; have H := H1; clear H1; replace H := Option.bind_eq_some_iff.mp H; obtain ⟨t196, A190, H⟩ := H; replace H : (if t196 = true then ((impl_inRange.f ((rd_T68 l0_3 x22_2).f1) 0 (wrap64 (a0_0 - 1))).bind fun t197 => (impl_AutoOk.j2 k2 x22_2 l0_3 (l0_3.length : Int) x22_2 (!t197) a0_0 a0_1 a0_2 l0_3 ((rd_T68 l0_3 x22_2).f0) ((rd_T68 l0_3 x22_2).f1) ((rd_T68 l0_3 x22_2).f2) ((rd_T68 l0_3 x22_2).f3))) else (impl_AutoOk.j2 k2 x22_2 l0_3 (l0_3.length : Int) x22_2 true a0_0 a0_1 a0_2 l0_3 ((rd_T68 l0_3 x22_2).f0) ((rd_T68 l0_3 x22_2).f1) ((rd_T68 l0_3 x22_2).f2) ((rd_T68 l0_3 x22_2).f3))) = some r := H; have A19 := Aside0.mk A190; clear A190
           by_cases c20 : t196 = true
           ·subst c20
            have H1 : ((impl_inRange.f ((rd_T68 l0_3 x22_2).f1) 0 (wrap64 (a0_0 - 1))).bind fun t197 => (impl_AutoOk.j2 k2 x22_2 l0_3 (l0_3.length : Int) x22_2 (!t197) a0_0 a0_1 a0_2 l0_3 ((rd_T68 l0_3 x22_2).f0) ((rd_T68 l0_3 x22_2).f1) ((rd_T68 l0_3 x22_2).f2) ((rd_T68 l0_3 x22_2).f3))) = some r := by rw [if_pos rfl] at H; exact H
            clear H; have H := H1; clear H1; replace H := Option.bind_eq_some_iff.mp H; obtain ⟨t197, A210, H⟩ := H; replace H : (impl_AutoOk.j2 k2 x22_2 l0_3 (l0_3.length : Int) x22_2 (!t197) a0_0 a0_1 a0_2 l0_3 ((rd_T68 l0_3 x22_2).f0) ((rd_T68 l0_3 x22_2).f1) ((rd_T68 l0_3 x22_2).f2) ((rd_T68 l0_3 x22_2).f3)) = some r := H; have A21 := Aside0.mk A210; clear A210; have H' := Aside0.mk H; clear H; have hnb22 := NB194_191.out; have hnc22 := NB191_194.out; have hcz23_0 : w14.cell? ⟨gb194, 0, none⟩ = some (.int .i64 0) := b1 BK194 0; have hcz23_1 : w14.cell? ⟨gb194, 1, none⟩ = some (.int .i64 0) := b1 BK194 1; have hcz23_2 : w14.cell? ⟨gb194, 2, none⟩ = some (.int .i64 0) := b1 BK194 2; have hcz23_3 : w14.cell? ⟨gb194, 3, none⟩ = some (.bool false) := b1 BK194 3; have hfz23_0 := blk_frozen BK194.out 0; have hfz23_1 := blk_frozen BK194.out 1; have hfz23_2 := blk_frozen BK194.out 2; have hfz23_3 := blk_frozen BK194.out 3; have hcz24_0 : w14.cell? ⟨gb191, 0, none⟩ = some (.int .i64 a0_0) := b1 BK191 0; have hcz24_1 : w14.cell? ⟨gb191, 1, none⟩ = some (.int .i64 a0_1) := b1 BK191 1; have hcz24_2 : w14.cell? ⟨gb191, 2, none⟩ = some (.int .i64 a0_2) := b1 BK191 2; have hcz24_3 : w14.cell? ⟨gb191, 3, none⟩ = some (.slice (some ad193) l0_3.length c0_3) := b1 BK191 3; have hfz24_0 := blk_frozen BK191.out 0; have hfz24_1 := blk_frozen BK191.out 1; have hfz24_2 := blk_frozen BK191.out 2; have hfz24_3 := blk_frozen BK191.out 3
            go_wp2_with (first | ((with_reducible refine gate_callee (f := 69) rfl ?_); refine goesL_ (some 32) rfl rfl Try.func69 (by kernel_rfl) rfl #[.int .i64 ((rd_T68 l0_3 x22_2).f0), .int .i64 0, .int .i64 (wrap64 (a0_1 - 1))] rfl (by (try simp only [m3]); first | done | rfl | (simp only [d2]; rfl)) ?_; (with_reducible refine (impl_inRange.calls ((rd_T68 l0_3 x22_2).f0) 0 (wrap64 (a0_1 - 1)) true _ A17.out).mono ?_); rintro e w' ⟨rfl, ⟨nd, rfl⟩⟩; refine ⟨_, rfl, ?_⟩) | (go_at_call 69; (with_reducible refine (impl_inRange.calls ((rd_T68 l0_3 x22_2).f2) 0 (wrap64 (a0_1 - 1)) true _ A19.out).mono ?_); rintro e w' ⟨rfl, ⟨nd, rfl⟩⟩) | (go_at_call 69; (with_reducible refine (impl_inRange.calls ((rd_T68 l0_3 x22_2).f1) 0 (wrap64 (a0_0 - 1)) t197 _ A21.out).mono ?_); rintro e w' ⟨rfl, ⟨nd, rfl⟩⟩))
            go_meet
            case rel => exact ⟨_, (!t197), (by first | rfl | (simp; done) | (simp [*]; done)), H', ⟨by have := HJ1.out; have := HK2.out; first | omega | exact Nat.le_refl _⟩, ⟨zB BK191.out⟩, ⟨by (with_reducible repeat (first | refine blk_drewN ?_ _ | refine blk_drew ?_ | refine blk_alloc ?_ _)); refine blk_put (cs := #[.int .i64 ((rd_T68 l0_3 x22_2).f0), .int .i64 ((rd_T68 l0_3 x22_2).f1), .int .i64 ((rd_T68 l0_3 x22_2).f2), .bool false]) ?_ 3 _ rfl; (with_reducible repeat (first | refine blk_drewN ?_ _ | refine blk_drew ?_ | refine blk_alloc ?_ _)); refine blk_put (cs := #[.int .i64 ((rd_T68 l0_3 x22_2).f0), .int .i64 ((rd_T68 l0_3 x22_2).f1), .int .i64 0, .bool false]) ?_ 2 _ rfl; (with_reducible repeat (first | refine blk_drewN ?_ _ | refine blk_drew ?_ | refine blk_alloc ?_ _)); refine blk_put (cs := #[.int .i64 ((rd_T68 l0_3 x22_2).f0), .int .i64 0, .int .i64 0, .bool false]) ?_ 1 _ rfl; (with_reducible repeat (first | refine blk_drewN ?_ _ | refine blk_drew ?_ | refine blk_alloc ?_ _)); refine blk_put (cs := #[.int .i64 0, .int .i64 0, .int .i64 0, .bool false]) ?_ 0 _ rfl; (with_reducible repeat (first | refine blk_drewN ?_ _ | refine blk_drew ?_ | refine blk_alloc ?_ _)); exact BK194.out⟩, ⟨zS HB.out⟩⟩
           ·replace c20 := Bool.eq_false_iff.mpr c20; subst c20
            have H1 : (impl_AutoOk.j2 k2 x22_2 l0_3 (l0_3.length : Int) x22_2 true a0_0 a0_1 a0_2 l0_3 ((rd_T68 l0_3 x22_2).f0) ((rd_T68 l0_3 x22_2).f1) ((rd_T68 l0_3 x22_2).f2) ((rd_T68 l0_3 x22_2).f3)) = some r := by rw [if_neg (show ¬ (false = true) by decide)] at H; exact H
            clear H; have H := H1; clear H1; have H' := Aside0.mk H; clear H; have hnb25 := NB194_191.out; have hnc25 := NB191_194.out; have hcz26_0 : w14.cell? ⟨gb194, 0, none⟩ = some (.int .i64 0) := b1 BK194 0; have hcz26_1 : w14.cell? ⟨gb194, 1, none⟩ = some (.int .i64 0) := b1 BK194 1; have hcz26_2 : w14.cell? ⟨gb194, 2, none⟩ = some (.int .i64 0) := b1 BK194 2; have hcz26_3 : w14.cell? ⟨gb194, 3, none⟩ = some (.bool false) := b1 BK194 3; have hfz26_0 := blk_frozen BK194.out 0; have hfz26_1 := blk_frozen BK194.out 1; have hfz26_2 := blk_frozen BK194.out 2; have hfz26_3 := blk_frozen BK194.out 3; have hcz27_0 : w14.cell? ⟨gb191, 0, none⟩ = some (.int .i64 a0_0) := b1 BK191 0; have hcz27_1 : w14.cell? ⟨gb191, 1, none⟩ = some (.int .i64 a0_1) := b1 BK191 1; have hcz27_2 : w14.cell? ⟨gb191, 2, none⟩ = some (.int .i64 a0_2) := b1 BK191 2; have hcz27_3 : w14.cell? ⟨gb191, 3, none⟩ = some (.slice (some ad193) l0_3.length c0_3) := b1 BK191 3; have hfz27_0 := blk_frozen BK191.out 0; have hfz27_1 := blk_frozen BK191.out 1; have hfz27_2 := blk_frozen BK191.out 2; have hfz27_3 := blk_frozen BK191.out 3
            go_wp2_with (first | ((with_reducible refine gate_callee (f := 69) rfl ?_); refine goesL_ (some 32) rfl rfl Try.func69 (by kernel_rfl) rfl #[.int .i64 ((rd_T68 l0_3 x22_2).f0), .int .i64 0, .int .i64 (wrap64 (a0_1 - 1))] rfl (by (try simp only [m3]); first | done | rfl | (simp only [d2]; rfl)) ?_; (with_reducible refine (impl_inRange.calls ((rd_T68 l0_3 x22_2).f0) 0 (wrap64 (a0_1 - 1)) true _ A17.out).mono ?_); rintro e w' ⟨rfl, ⟨nd, rfl⟩⟩; refine ⟨_, rfl, ?_⟩) | (go_at_call 69; (with_reducible refine (impl_inRange.calls ((rd_T68 l0_3 x22_2).f2) 0 (wrap64 (a0_1 - 1)) false _ A19.out).mono ?_); rintro e w' ⟨rfl, ⟨nd, rfl⟩⟩))
            go_meet
            case rel => exact ⟨_, (true), (by first | rfl | (simp; done) | (simp [*]; done)), H', ⟨by have := HJ1.out; have := HK2.out; first | omega | exact Nat.le_refl _⟩, ⟨zB BK191.out⟩, ⟨by (with_reducible repeat (first | refine blk_drewN ?_ _ | refine blk_drew ?_ | refine blk_alloc ?_ _)); refine blk_put (cs := #[.int .i64 ((rd_T68 l0_3 x22_2).f0), .int .i64 ((rd_T68 l0_3 x22_2).f1), .int .i64 ((rd_T68 l0_3 x22_2).f2), .bool false]) ?_ 3 _ rfl; (with_reducible repeat (first | refine blk_drewN ?_ _ | refine blk_drew ?_ | refine blk_alloc ?_ _)); refine blk_put (cs := #[.int .i64 ((rd_T68 l0_3 x22_2).f0), .int .i64 ((rd_T68 l0_3 x22_2).f1), .int .i64 0, .bool false]) ?_ 2 _ rfl; (with_reducible repeat (first | refine blk_drewN ?_ _ | refine blk_drew ?_ | refine blk_alloc ?_ _)); refine blk_put (cs := #[.int .i64 ((rd_T68 l0_3 x22_2).f0), .int .i64 0, .int .i64 0, .bool false]) ?_ 1 _ rfl; (with_reducible repeat (first | refine blk_drewN ?_ _ | refine blk_drew ?_ | refine blk_alloc ?_ _)); refine blk_put (cs := #[.int .i64 0, .int .i64 0, .int .i64 0, .bool false]) ?_ 0 _ rfl; (with_reducible repeat (first | refine blk_drewN ?_ _ | refine blk_drew ?_ | refine blk_alloc ?_ _)); exact BK194.out⟩, ⟨zS HB.out⟩⟩
          ·replace c18 := Bool.eq_false_iff.mpr c18; subst c18
           have H1 : (impl_AutoOk.j2 k2 x22_2 l0_3 (l0_3.length : Int) x22_2 true a0_0 a0_1 a0_2 l0_3 ((rd_T68 l0_3 x22_2).f0) ((rd_T68 l0_3 x22_2).f1) ((rd_T68 l0_3 x22_2).f2) ((rd_T68 l0_3 x22_2).f3)) = some r := by rw [if_neg (show ¬ (false = true) by decide)] at H; exact H
           clear H; have H := H1; clear H1; have H' := Aside0.mk H; clear H; have hnb28 := NB194_191.out; have hnc28 := NB191_194.out; have hcz29_0 : w14.cell? ⟨gb194, 0, none⟩ = some (.int .i64 0) := b1 BK194 0; have hcz29_1 : w14.cell? ⟨gb194, 1, none⟩ = some (.int .i64 0) := b1 BK194 1; have hcz29_2 : w14.cell? ⟨gb194, 2, none⟩ = some (.int .i64 0) := b1 BK194 2; have hcz29_3 : w14.cell? ⟨gb194, 3, none⟩ = some (.bool false) := b1 BK194 3; have hfz29_0 := blk_frozen BK194.out 0; have hfz29_1 := blk_frozen BK194.out 1; have hfz29_2 := blk_frozen BK194.out 2; have hfz29_3 := blk_frozen BK194.out 3; have hcz30_0 : w14.cell? ⟨gb191, 0, none⟩ = some (.int .i64 a0_0) := b1 BK191 0; have hcz30_1 : w14.cell? ⟨gb191, 1, none⟩ = some (.int .i64 a0_1) := b1 BK191 1; have hcz30_2 : w14.cell? ⟨gb191, 2, none⟩ = some (.int .i64 a0_2) := b1 BK191 2; have hcz30_3 : w14.cell? ⟨gb191, 3, none⟩ = some (.slice (some ad193) l0_3.length c0_3) := b1 BK191 3; have hfz30_0 := blk_frozen BK191.out 0; have hfz30_1 := blk_frozen BK191.out 1; have hfz30_2 := blk_frozen BK191.out 2; have hfz30_3 := blk_frozen BK191.out 3
           go_wp2_with (first | ((with_reducible refine gate_callee (f := 69) rfl ?_); refine goesL_ (some 32) rfl rfl Try.func69 (by kernel_rfl) rfl #[.int .i64 ((rd_T68 l0_3 x22_2).f0), .int .i64 0, .int .i64 (wrap64 (a0_1 - 1))] rfl (by (try simp only [m3]); first | done | rfl | (simp only [d2]; rfl)) ?_; (with_reducible refine (impl_inRange.calls ((rd_T68 l0_3 x22_2).f0) 0 (wrap64 (a0_1 - 1)) false _ A17.out).mono ?_); rintro e w' ⟨rfl, ⟨nd, rfl⟩⟩; refine ⟨_, rfl, ?_⟩))
           go_meet
           case rel => exact ⟨_, (true), (by first | rfl | (simp; done) | (simp [*]; done)), H', ⟨by have := HJ1.out; have := HK2.out; first | omega | exact Nat.le_refl _⟩, ⟨zB BK191.out⟩, ⟨by (with_reducible repeat (first | refine blk_drewN ?_ _ | refine blk_drew ?_ | refine blk_alloc ?_ _)); refine blk_put (cs := #[.int .i64 ((rd_T68 l0_3 x22_2).f0), .int .i64 ((rd_T68 l0_3 x22_2).f1), .int .i64 ((rd_T68 l0_3 x22_2).f2), .bool false]) ?_ 3 _ rfl; (with_reducible repeat (first | refine blk_drewN ?_ _ | refine blk_drew ?_ | refine blk_alloc ?_ _)); refine blk_put (cs := #[.int .i64 ((rd_T68 l0_3 x22_2).f0), .int .i64 ((rd_T68 l0_3 x22_2).f1), .int .i64 0, .bool false]) ?_ 2 _ rfl; (with_reducible repeat (first | refine blk_drewN ?_ _ | refine blk_drew ?_ | refine blk_alloc ?_ _)); refine blk_put (cs := #[.int .i64 ((rd_T68 l0_3 x22_2).f0), .int .i64 0, .int .i64 0, .bool false]) ?_ 1 _ rfl; (with_reducible repeat (first | refine blk_drewN ?_ _ | refine blk_drew ?_ | refine blk_alloc ?_ _)); refine blk_put (cs := #[.int .i64 0, .int .i64 0, .int .i64 0, .bool false]) ?_ 0 _ rfl; (with_reducible repeat (first | refine blk_drewN ?_ _ | refine blk_drew ?_ | refine blk_alloc ?_ _)); exact BK194.out⟩, ⟨zS HB.out⟩⟩
         case rest =>
          clear HC13
          try clear c1
          try clear p1
          try clear q1
          try clear hx1
          try clear c2
          try clear p2
          try clear c5
          try clear c6
          try clear p6
          try clear c8
          try clear c10
          try clear c10b0
          try clear c11
          try clear c11b0
          try clear c12
          try clear c12b0
          try clear c15
          try clear c18
          try clear p19
          try clear q19
          try clear hx19
          try clear c20
          try clear c22
          try clear c25
          try clear c28
          try clear hcz16_0
          try clear hcz16_1
          try clear hcz16_2
          try clear hcz16_3
          try clear hcz23_0
          try clear hcz23_1
          try clear hcz23_2
          try clear hcz23_3
          try clear hcz24_0
          try clear hcz24_1
          try clear hcz24_2
          try clear hcz24_3
          try clear hcz26_0
          try clear hcz26_1
          try clear hcz26_2
          try clear hcz26_3
          try clear hcz27_0
          try clear hcz27_1
          try clear hcz27_2
          try clear hcz27_3
          try clear hcz29_0
          try clear hcz29_1
          try clear hcz29_2
          try clear hcz29_3
          try clear hcz30_0
          try clear hcz30_1
          try clear hcz30_2
          try clear hcz30_3
          try clear hcz6_0
          try clear hcz6_1
          try clear hcz6_2
          try clear hcz6_3
          try clear hcz7_0
          try clear hcz7_1
          try clear hcz7_2
          try clear hcz7_3
          try clear hcz9_0
          try clear hcz9_1
          try clear hcz9_2
          try clear hcz9_3
          try clear hfz16_0
          try clear hfz16_1
          try clear hfz16_2
          try clear hfz16_3
          try clear hfz23_0
          try clear hfz23_1
          try clear hfz23_2
          try clear hfz23_3
          try clear hfz24_0
          try clear hfz24_1
          try clear hfz24_2
          try clear hfz24_3
          try clear hfz26_0
          try clear hfz26_1
          try clear hfz26_2
          try clear hfz26_3
          try clear hfz27_0
          try clear hfz27_1
          try clear hfz27_2
          try clear hfz27_3
          try clear hfz29_0
          try clear hfz29_1
          try clear hfz29_2
          try clear hfz29_3
          try clear hfz30_0
          try clear hfz30_1
          try clear hfz30_2
          try clear hfz30_3
          try clear hfz6_0
          try clear hfz6_1
          try clear hfz6_2
          try clear hfz6_3
          try clear hfz7_0
          try clear hfz7_1
          try clear hfz7_2
          try clear hfz7_3
          try clear hfz9_0
          try clear hfz9_1
          try clear hfz9_2
          try clear hfz9_3
          try clear hx193_0
          try clear hx193_1
          try clear hx193_2
          try clear hx193_3
          try clear p193
          try clear p2
          try clear q193
          obtain ⟨kq, x51_12, rfl, HA, HJ12, BK191, BK194, HB⟩ := hcut
          cases kq with
          | zero => exact absurd HA.out (by simp [impl_AutoOk.j2])
          | succ kj12 =>
           have H := HA.out; clear HA; simp only [impl_AutoOk.j2] at H
           by_cases c31 : x51_12 = true
           ·subst c31
            have H1 : (some false) = some r := by rw [if_pos rfl] at H; exact H
            clear H; have H := H1; clear H1; obtain rfl := Option.some.inj H
            go_wp2
            go_ret; exact ⟨by first | rfl | (simp [errW_none, errW_some] <;> rfl) | (simp [*, errW_none, errW_some] <;> rfl), by repeat (first | (with_reducible first | exact HB.out | apply below_alloc | apply pw_below_drewN | apply below_drew1 | refine below_set ?_ GE191.out | refine below_set ?_ GE194.out) | exact HB.out)⟩
           ·replace c31 := Bool.eq_false_iff.mpr c31; subst c31
            have H1 : (if x22_2 > 0 then (if 0 ≤ (wrap64 (x22_2 - 1)) then (if (wrap64 (x22_2 - 1)) < (l0_3.length : Int) then ((impl_compareEdges.f kj12 ((rd_T68 l0_3 (wrap64 (x22_2 - 1))).f0) ((rd_T68 l0_3 (wrap64 (x22_2 - 1))).f1) ((rd_T68 l0_3 (wrap64 (x22_2 - 1))).f2) ((rd_T68 l0_3 (wrap64 (x22_2 - 1))).f3) ((rd_T68 l0_3 x22_2).f0) ((rd_T68 l0_3 x22_2).f1) ((rd_T68 l0_3 x22_2).f2) ((rd_T68 l0_3 x22_2).f3)).bind fun t199 => (if t199 ≥ 0 then (some false) else (impl_AutoOk.l0 kj12 l0_3 (l0_3.length : Int) (wrap64 (x22_2 + 1)) a0_0 a0_1 a0_2 l0_3))) else (none)) else (none)) else (impl_AutoOk.l0 kj12 l0_3 (l0_3.length : Int) (wrap64 (x22_2 + 1)) a0_0 a0_1 a0_2 l0_3)) = some r := by rw [if_neg (show ¬ (false = true) by decide)] at H; exact H
            clear H; have H := H1; clear H1
            by_cases c32 : x22_2 > 0
            ·rw [if_pos c32] at H; have c32b0 : decide (0 < x22_2) = true := decide_eq_true c32; clear c32; obtain ⟨ji33, hji33⟩ : ∃ j_ : Int, (wrap64 (x22_2 - 1)) = j_ := ⟨_, rfl⟩
             replace H : (if 0 ≤ (ji33) then (if (ji33) < (l0_3.length : Int) then ((impl_compareEdges.f kj12 ((rd_T68 l0_3 (ji33)).f0) ((rd_T68 l0_3 (ji33)).f1) ((rd_T68 l0_3 (ji33)).f2) ((rd_T68 l0_3 (ji33)).f3) ((rd_T68 l0_3 x22_2).f0) ((rd_T68 l0_3 x22_2).f1) ((rd_T68 l0_3 x22_2).f2) ((rd_T68 l0_3 x22_2).f3)).bind fun t199 => (if t199 ≥ 0 then (some false) else (impl_AutoOk.l0 kj12 l0_3 (l0_3.length : Int) (wrap64 (x22_2 + 1)) a0_0 a0_1 a0_2 l0_3))) else (none)) else (none)) = some r := by first | (rw [hji33] at H; exact H) | (simp only [hji33] at H ⊢; exact H)
             have hji33w : (IntKind.i64.wrap (x22_2 - 1)) = ji33 := (i64_w _).trans hji33
             by_cases c34 : 0 ≤ (ji33)
             ·rw [if_pos c34] at H; have c34b0 : decide (0 ≤ (ji33)) = true := decide_eq_true c34; clear c34
              by_cases c35 : (ji33) < (l0_3.length : Int)
              ·rw [if_pos c35] at H; have c35b0 : decide ((ji33) < (l0_3.length : Int)) = true := decide_eq_true c35; clear c35; replace H := Option.bind_eq_some_iff.mp H; obtain ⟨t199, A360, H⟩ := H; replace H : (if t199 ≥ 0 then (some false) else (impl_AutoOk.l0 kj12 l0_3 (l0_3.length : Int) (wrap64 (x22_2 + 1)) a0_0 a0_1 a0_2 l0_3)) = some r := H; have A36 := Aside0.mk A360; clear A360
               by_cases c37 : t199 ≥ 0
               ·rw [if_pos c37] at H; have c37b0 : decide (0 ≤ t199) = true := decide_eq_true c37; clear c37; obtain rfl := Option.some.inj H
                try go_wp2
                replace BK191 := Aside0.mk (blk_drew BK191.out); replace BK194 := Aside0.mk (blk_drew BK194.out); replace HB := Aside0.mk (below_drew1 HB.out); have p198 : 0 ≤ ((ji33) : Int) := of_decide_eq_true (by first | (with_reducible assumption) | assumption); have q198 : (ji33) < (l0_3.length : Int) := of_decide_eq_true (by first | (with_reducible assumption) | assumption); obtain ⟨ad198, e198, hx198_0, hx198_1, hx198_2, hx198_3⟩ := at_T68 HR0_3.out (ji33) p198 q198; have hw198_3 := hx198_3; have hw198_2 := hx198_2; have hw198_1 := hx198_1; have hw198_0 := hx198_0; obtain rfl : ad193 = ad198 := (by injection e198); replace hx198_0 := (HB.out.cell (World.block_lt_of_cell? w _ hx198_0)).trans hx198_0; replace hx198_1 := (HB.out.cell (World.block_lt_of_cell? w _ hx198_1)).trans hx198_1; replace hx198_2 := (HB.out.cell (World.block_lt_of_cell? w _ hx198_2)).trans hx198_2; replace hx198_3 := (HB.out.cell (World.block_lt_of_cell? w _ hx198_3)).trans hx198_3; replace p198 := eq_true p198; replace q198 := eq_true q198; refine start_ (n := 13) (S := fun w' => w'.cell? ⟨gb191, 0, none⟩ = some (.int .i64 a0_0) ∧ w'.cell? ⟨gb191, 1, none⟩ = some (.int .i64 a0_1) ∧ w'.cell? ⟨gb191, 2, none⟩ = some (.int .i64 a0_2) ∧ w'.cell? ⟨gb191, 3, none⟩ = some (.slice (some ad193) l0_3.length c0_3) ∧ w'.cell? ⟨gb194, 0, none⟩ = some (.int .i64 ((rd_T68 l0_3 x22_2).f0)) ∧ w'.cell? ⟨gb194, 1, none⟩ = some (.int .i64 ((rd_T68 l0_3 x22_2).f1)) ∧ w'.cell? ⟨gb194, 2, none⟩ = some (.int .i64 ((rd_T68 l0_3 x22_2).f2)) ∧ w'.cell? ⟨gb194, 3, none⟩ = some (.bool ((rd_T68 l0_3 x22_2).f3)) ∧ w'.cell? (ad193.add (((ji33)).toNat * 4)) = some (.int .i64 ((rd_T68 l0_3 (ji33)).f0)) ∧ w'.cell? ⟨(ad193.add (((ji33)).toNat * 4)).block, (ad193.add (((ji33)).toNat * 4)).off + 1, none⟩ = some (.int .i64 ((rd_T68 l0_3 (ji33)).f1)) ∧ w'.cell? ⟨(ad193.add (((ji33)).toNat * 4)).block, (ad193.add (((ji33)).toNat * 4)).off + 2, none⟩ = some (.int .i64 ((rd_T68 l0_3 (ji33)).f2)) ∧ w'.cell? ⟨(ad193.add (((ji33)).toNat * 4)).block, (ad193.add (((ji33)).toNat * 4)).off + 3, none⟩ = some (.bool ((rd_T68 l0_3 (ji33)).f3))) (ds := []) bl0 (by kernel_rfl) rfl rfl ⟨b1 BK191 0, b1 BK191 1, b1 BK191 2, b1 BK191 3, b1 BK194 0, b1 BK194 1, b1 BK194 2, b1 BK194 3, ((HB.out.cell (World.block_lt_of_cell? w _ hw198_0)).trans hw198_0), ((HB.out.cell (World.block_lt_of_cell? w _ hw198_1)).trans hw198_1), ((HB.out.cell (World.block_lt_of_cell? w _ hw198_2)).trans hw198_2), ((HB.out.cell (World.block_lt_of_cell? w _ hw198_3)).trans hw198_3)⟩ (fun hHeld => ?_); refine with_tabW impl_AutoOk.tab8 impl_AutoOk.bits8 (fun HT_ HW_ => ?_); generalize wc.drew = w38 at BK191 BK194 HB hx198_0 hx198_1 hx198_2 hx198_3 hHeld ⊢
                refine pu 0 (some 52) bl1 HT_ ?_ rfl rfl (.inl ⟨by rfl, ?_⟩) ?_ ?_ ?_; rotate_left; (intro w'; go_simp; with_reducible rfl); rotate_left; (simp only [Act.put, q5]; rfl)
                refine pu 1 (some 53) bl2 HT_ ?_ rfl rfl (.inl ⟨by rfl, ?_⟩) ?_ ?_ ?_; rotate_left; (intro w'; go_simp; with_reducible rfl); rotate_left; (simp only [Act.put, q5]; rfl)
                refine pu 2 (some 54) bl3 HT_ ?_ rfl rfl (.inl ⟨by rfl, ?_⟩) ?_ ?_ ?_; rotate_left; (intro w'; go_simp; with_reducible rfl); rotate_left; (simp only [Act.put, q5]; rfl)
                refine pu 3 (some 55) bl4 HT_ ?_ rfl rfl (.inl ⟨by rfl, ?_⟩) ?_ ?_ ?_; rotate_left; (intro w'; go_simp; with_reducible rfl); rotate_left; (simp only [Act.put, q5]; rfl)
                refine pu 5 (some 57) bl5 HT_ ?_ rfl rfl (.inl ⟨by rfl, ?_⟩) ?_ ?_ ?_; rotate_left; (intro w'; go_simp; with_reducible rfl); rotate_left; (simp only [Act.put, q5]; rfl)
                refine pu 6 (some 58) bl6 HT_ ?_ rfl rfl (.inl ⟨by rfl, ?_⟩) ?_ ?_ ?_; rotate_left; (intro w'; go_simp; with_reducible rfl); rotate_left; (simp only [Act.put, q5]; rfl)
                refine take_ (i := 4) (N := some 56) (v := ?_) (a' := ?_) bl7 rfl rfl (take_ofW HT_.out HW_.out (by kernel_rfl)) (fun _ _ _ h => h) (Or.inl ⟨by rfl, ?_⟩) hHeld ?_ ?_; rotate_left
                ·rintro w' ⟨s0, s1, s2, s3, s4, s5, s6, s7, s8, s9, s10, s11⟩; go_simp; with_reducible rfl
                rotate_left
                ·simp only [Act.put, q5]; rfl
                refine pu 7 (some 59) bl8 HT_ ?_ rfl rfl (.inl ⟨by rfl, ?_⟩) ?_ ?_ ?_; rotate_left; (intro w'; go_simp; with_reducible rfl); rotate_left; (simp only [Act.put, q5]; rfl)
                refine take_ (i := 8) (N := some 60) (v := ?_) (a' := ?_) bl9 rfl rfl (take_ofW HT_.out HW_.out (by kernel_rfl)) (fun _ _ _ h => h) (Or.inl ⟨by rfl, ?_⟩) hHeld ?_ ?_; rotate_left
                ·rintro w' ⟨s0, s1, s2, s3, s4, s5, s6, s7, s8, s9, s10, s11⟩; go_simp; with_reducible rfl
                rotate_left
                ·simp only [Act.put, q5]; rfl
                refine take_ (i := 9) (N := some 61) (v := ?_) (a' := ?_) bl10 rfl rfl (take_ofW HT_.out HW_.out (by kernel_rfl)) (fun _ _ _ h => h) (Or.inl ⟨by rfl, ?_⟩) hHeld ?_ ?_; rotate_left
                ·rintro w' ⟨s0, s1, s2, s3, s4, s5, s6, s7, s8, s9, s10, s11⟩; go_simp; with_reducible rfl
                rotate_left
                ·simp only [Act.put, q5]; rfl
                refine one_ (i := 10) (N := some 62) bl11 rfl rfl (one_of HT_.out (by kernel_rfl)) (by decide) (fun K hK => ?_); refine goes_ Try.func70 (by kernel_rfl) rfl #[.agg #[.int .i64 ((rd_T68 l0_3 (ji33)).f0), .int .i64 ((rd_T68 l0_3 (ji33)).f1), .int .i64 ((rd_T68 l0_3 (ji33)).f2), .bool ((rd_T68 l0_3 (ji33)).f3)], .agg #[.int .i64 ((rd_T68 l0_3 x22_2).f0), .int .i64 ((rd_T68 l0_3 x22_2).f1), .int .i64 ((rd_T68 l0_3 x22_2).f2), .bool ((rd_T68 l0_3 x22_2).f3)]] (by rfl) rfl rfl (by (try simp only [m3]); first | done | (simp only [hji33]; rfl) | rfl | (simp only [d2]; rfl)) ?_
                with_reducible refine (impl_compareEdges.calls kj12 ((rd_T68 l0_3 (ji33)).f0) ((rd_T68 l0_3 (ji33)).f1) ((rd_T68 l0_3 (ji33)).f2) ((rd_T68 l0_3 (ji33)).f3) ((rd_T68 l0_3 x22_2).f0) ((rd_T68 l0_3 x22_2).f1) ((rd_T68 l0_3 x22_2).f2) ((rd_T68 l0_3 x22_2).f3) t199 _ A36.out).mono ?_
                rintro e w39 ⟨rfl, hb⟩; refine ⟨_, rfl, ?_⟩; replace BK191 := xB BK191 hb; replace BK194 := xB BK194 hb; replace HB := xS HB hb
                (try clear hb)
                (try clear hb2)
                (try clear hk)
                (try clear hi)
                refine hK.out _ _ ⟨b1 BK191 0, b1 BK191 1, b1 BK191 2, b1 BK191 3, b1 BK194 0, b1 BK194 1, b1 BK194 2, b1 BK194 3, ((HB.out.cell (World.block_lt_of_cell? w _ hw198_0)).trans hw198_0), ((HB.out.cell (World.block_lt_of_cell? w _ hw198_1)).trans hw198_1), ((HB.out.cell (World.block_lt_of_cell? w _ hw198_2)).trans hw198_2), ((HB.out.cell (World.block_lt_of_cell? w _ hw198_3)).trans hw198_3)⟩ (fun hHeld => ?_); clear hK K; refine norm_ (a' := ?_) ?_ ?_; rotate_left
                ·show Act.put _ (some 62) _ = _; simp only [Act.put, q5]; rfl
                refine pu 11 (some 63) bl12 HT_ ?_ rfl rfl (.inl ⟨by rfl, ?_⟩) ?_ ?_ ?_; rotate_left; (intro w'; go_simp; with_reducible rfl); rotate_left; (simp only [Act.put, q5]; rfl)
                refine pu 12 (some 64) bl13 HT_ ?_ rfl rfl (.inl ⟨by rfl, ?_⟩) ?_ ?_ ?_; rotate_left; (intro w'; go_simp; with_reducible rfl); rotate_left; (simp only [Act.put, q5]; rfl)
                refine done_ (done_of HT_.out (by kernel_rfl)) ?_
                try go_wp2
                go_ret; exact ⟨by first | rfl | (simp [errW_none, errW_some] <;> rfl) | (simp only [← hji33]; first | rfl | (simp [errW_none, errW_some] <;> rfl)) | (simp [*, errW_none, errW_some] <;> rfl), by repeat (first | (with_reducible first | exact HB.out | apply below_alloc | apply pw_below_drewN | apply below_drew1 | refine below_set ?_ GE191.out | refine below_set ?_ GE194.out) | exact HB.out)⟩
               ·rw [if_neg c37] at H; have c37b0 : decide (0 ≤ t199) = false := decide_eq_false c37; clear c37; have H' := Aside0.mk H; clear H
                try go_wp2
                replace BK191 := Aside0.mk (blk_drew BK191.out); replace BK194 := Aside0.mk (blk_drew BK194.out); replace HB := Aside0.mk (below_drew1 HB.out); have p198 : 0 ≤ ((ji33) : Int) := of_decide_eq_true (by first | (with_reducible assumption) | assumption); have q198 : (ji33) < (l0_3.length : Int) := of_decide_eq_true (by first | (with_reducible assumption) | assumption); obtain ⟨ad198, e198, hx198_0, hx198_1, hx198_2, hx198_3⟩ := at_T68 HR0_3.out (ji33) p198 q198; have hw198_3 := hx198_3; have hw198_2 := hx198_2; have hw198_1 := hx198_1; have hw198_0 := hx198_0; obtain rfl : ad193 = ad198 := (by injection e198); replace hx198_0 := (HB.out.cell (World.block_lt_of_cell? w _ hx198_0)).trans hx198_0; replace hx198_1 := (HB.out.cell (World.block_lt_of_cell? w _ hx198_1)).trans hx198_1; replace hx198_2 := (HB.out.cell (World.block_lt_of_cell? w _ hx198_2)).trans hx198_2; replace hx198_3 := (HB.out.cell (World.block_lt_of_cell? w _ hx198_3)).trans hx198_3; replace p198 := eq_true p198; replace q198 := eq_true q198; refine start_ (n := 13) (S := fun w' => w'.cell? ⟨gb191, 0, none⟩ = some (.int .i64 a0_0) ∧ w'.cell? ⟨gb191, 1, none⟩ = some (.int .i64 a0_1) ∧ w'.cell? ⟨gb191, 2, none⟩ = some (.int .i64 a0_2) ∧ w'.cell? ⟨gb191, 3, none⟩ = some (.slice (some ad193) l0_3.length c0_3) ∧ w'.cell? ⟨gb194, 0, none⟩ = some (.int .i64 ((rd_T68 l0_3 x22_2).f0)) ∧ w'.cell? ⟨gb194, 1, none⟩ = some (.int .i64 ((rd_T68 l0_3 x22_2).f1)) ∧ w'.cell? ⟨gb194, 2, none⟩ = some (.int .i64 ((rd_T68 l0_3 x22_2).f2)) ∧ w'.cell? ⟨gb194, 3, none⟩ = some (.bool ((rd_T68 l0_3 x22_2).f3)) ∧ w'.cell? (ad193.add (((ji33)).toNat * 4)) = some (.int .i64 ((rd_T68 l0_3 (ji33)).f0)) ∧ w'.cell? ⟨(ad193.add (((ji33)).toNat * 4)).block, (ad193.add (((ji33)).toNat * 4)).off + 1, none⟩ = some (.int .i64 ((rd_T68 l0_3 (ji33)).f1)) ∧ w'.cell? ⟨(ad193.add (((ji33)).toNat * 4)).block, (ad193.add (((ji33)).toNat * 4)).off + 2, none⟩ = some (.int .i64 ((rd_T68 l0_3 (ji33)).f2)) ∧ w'.cell? ⟨(ad193.add (((ji33)).toNat * 4)).block, (ad193.add (((ji33)).toNat * 4)).off + 3, none⟩ = some (.bool ((rd_T68 l0_3 (ji33)).f3))) (ds := []) bl0 (by kernel_rfl) rfl rfl ⟨b1 BK191 0, b1 BK191 1, b1 BK191 2, b1 BK191 3, b1 BK194 0, b1 BK194 1, b1 BK194 2, b1 BK194 3, ((HB.out.cell (World.block_lt_of_cell? w _ hw198_0)).trans hw198_0), ((HB.out.cell (World.block_lt_of_cell? w _ hw198_1)).trans hw198_1), ((HB.out.cell (World.block_lt_of_cell? w _ hw198_2)).trans hw198_2), ((HB.out.cell (World.block_lt_of_cell? w _ hw198_3)).trans hw198_3)⟩ (fun hHeld => ?_); refine with_tabW impl_AutoOk.tab8 impl_AutoOk.bits8 (fun HT_ HW_ => ?_); generalize wc.drew = w40 at BK191 BK194 HB hx198_0 hx198_1 hx198_2 hx198_3 hHeld ⊢
                refine pu 0 (some 52) bl1 HT_ ?_ rfl rfl (.inl ⟨by rfl, ?_⟩) ?_ ?_ ?_; rotate_left; (intro w'; go_simp; with_reducible rfl); rotate_left; (simp only [Act.put, q5]; rfl)
                refine pu 1 (some 53) bl2 HT_ ?_ rfl rfl (.inl ⟨by rfl, ?_⟩) ?_ ?_ ?_; rotate_left; (intro w'; go_simp; with_reducible rfl); rotate_left; (simp only [Act.put, q5]; rfl)
                refine pu 2 (some 54) bl3 HT_ ?_ rfl rfl (.inl ⟨by rfl, ?_⟩) ?_ ?_ ?_; rotate_left; (intro w'; go_simp; with_reducible rfl); rotate_left; (simp only [Act.put, q5]; rfl)
                refine pu 3 (some 55) bl4 HT_ ?_ rfl rfl (.inl ⟨by rfl, ?_⟩) ?_ ?_ ?_; rotate_left; (intro w'; go_simp; with_reducible rfl); rotate_left; (simp only [Act.put, q5]; rfl)
                refine pu 5 (some 57) bl5 HT_ ?_ rfl rfl (.inl ⟨by rfl, ?_⟩) ?_ ?_ ?_; rotate_left; (intro w'; go_simp; with_reducible rfl); rotate_left; (simp only [Act.put, q5]; rfl)
                refine pu 6 (some 58) bl6 HT_ ?_ rfl rfl (.inl ⟨by rfl, ?_⟩) ?_ ?_ ?_; rotate_left; (intro w'; go_simp; with_reducible rfl); rotate_left; (simp only [Act.put, q5]; rfl)
                refine take_ (i := 4) (N := some 56) (v := ?_) (a' := ?_) bl7 rfl rfl (take_ofW HT_.out HW_.out (by kernel_rfl)) (fun _ _ _ h => h) (Or.inl ⟨by rfl, ?_⟩) hHeld ?_ ?_; rotate_left
                ·rintro w' ⟨s0, s1, s2, s3, s4, s5, s6, s7, s8, s9, s10, s11⟩; go_simp; with_reducible rfl
                rotate_left
                ·simp only [Act.put, q5]; rfl
                refine pu 7 (some 59) bl8 HT_ ?_ rfl rfl (.inl ⟨by rfl, ?_⟩) ?_ ?_ ?_; rotate_left; (intro w'; go_simp; with_reducible rfl); rotate_left; (simp only [Act.put, q5]; rfl)
                refine take_ (i := 8) (N := some 60) (v := ?_) (a' := ?_) bl9 rfl rfl (take_ofW HT_.out HW_.out (by kernel_rfl)) (fun _ _ _ h => h) (Or.inl ⟨by rfl, ?_⟩) hHeld ?_ ?_; rotate_left
                ·rintro w' ⟨s0, s1, s2, s3, s4, s5, s6, s7, s8, s9, s10, s11⟩; go_simp; with_reducible rfl
                rotate_left
                ·simp only [Act.put, q5]; rfl
                refine take_ (i := 9) (N := some 61) (v := ?_) (a' := ?_) bl10 rfl rfl (take_ofW HT_.out HW_.out (by kernel_rfl)) (fun _ _ _ h => h) (Or.inl ⟨by rfl, ?_⟩) hHeld ?_ ?_; rotate_left
                ·rintro w' ⟨s0, s1, s2, s3, s4, s5, s6, s7, s8, s9, s10, s11⟩; go_simp; with_reducible rfl
                rotate_left
                ·simp only [Act.put, q5]; rfl
                refine one_ (i := 10) (N := some 62) bl11 rfl rfl (one_of HT_.out (by kernel_rfl)) (by decide) (fun K hK => ?_); refine goes_ Try.func70 (by kernel_rfl) rfl #[.agg #[.int .i64 ((rd_T68 l0_3 (ji33)).f0), .int .i64 ((rd_T68 l0_3 (ji33)).f1), .int .i64 ((rd_T68 l0_3 (ji33)).f2), .bool ((rd_T68 l0_3 (ji33)).f3)], .agg #[.int .i64 ((rd_T68 l0_3 x22_2).f0), .int .i64 ((rd_T68 l0_3 x22_2).f1), .int .i64 ((rd_T68 l0_3 x22_2).f2), .bool ((rd_T68 l0_3 x22_2).f3)]] (by rfl) rfl rfl (by (try simp only [m3]); first | done | (simp only [hji33]; rfl) | rfl | (simp only [d2]; rfl)) ?_
                with_reducible refine (impl_compareEdges.calls kj12 ((rd_T68 l0_3 (ji33)).f0) ((rd_T68 l0_3 (ji33)).f1) ((rd_T68 l0_3 (ji33)).f2) ((rd_T68 l0_3 (ji33)).f3) ((rd_T68 l0_3 x22_2).f0) ((rd_T68 l0_3 x22_2).f1) ((rd_T68 l0_3 x22_2).f2) ((rd_T68 l0_3 x22_2).f3) t199 _ A36.out).mono ?_
                rintro e w41 ⟨rfl, hb⟩; refine ⟨_, rfl, ?_⟩; replace BK191 := xB BK191 hb; replace BK194 := xB BK194 hb; replace HB := xS HB hb
                (try clear hb)
                (try clear hb2)
                (try clear hk)
                (try clear hi)
                refine hK.out _ _ ⟨b1 BK191 0, b1 BK191 1, b1 BK191 2, b1 BK191 3, b1 BK194 0, b1 BK194 1, b1 BK194 2, b1 BK194 3, ((HB.out.cell (World.block_lt_of_cell? w _ hw198_0)).trans hw198_0), ((HB.out.cell (World.block_lt_of_cell? w _ hw198_1)).trans hw198_1), ((HB.out.cell (World.block_lt_of_cell? w _ hw198_2)).trans hw198_2), ((HB.out.cell (World.block_lt_of_cell? w _ hw198_3)).trans hw198_3)⟩ (fun hHeld => ?_); clear hK K; refine norm_ (a' := ?_) ?_ ?_; rotate_left
                ·show Act.put _ (some 62) _ = _; simp only [Act.put, q5]; rfl
                refine pu 11 (some 63) bl12 HT_ ?_ rfl rfl (.inl ⟨by rfl, ?_⟩) ?_ ?_ ?_; rotate_left; (intro w'; go_simp; with_reducible rfl); rotate_left; (simp only [Act.put, q5]; rfl)
                refine pu 12 (some 64) bl13 HT_ ?_ rfl rfl (.inl ⟨by rfl, ?_⟩) ?_ ?_ ?_; rotate_left; (intro w'; go_simp; with_reducible rfl); rotate_left; (simp only [Act.put, q5]; rfl)
                refine done_ (done_of HT_.out (by kernel_rfl)) ?_
                try go_wp2
                go_roundg kj12
                case measure => have := HJ1.out; have := HK2.out; have := HJ12.out; omega
                case rel => exact ⟨(wrap64 (x22_2 + 1)), (by first | rfl | (simp; done) | (simp [*]; done)), H', ⟨by have := HJ1.out; have := HK2.out; have := HJ12.out; omega⟩, ⟨zB BK191.out⟩, ⟨zS HB.out⟩⟩
              ·rw [if_neg c35] at H; exact absurd H (by simp)
             ·rw [if_neg c34] at H; exact absurd H (by simp)
            ·rw [if_neg c32] at H; have c32b0 : decide (0 < x22_2) = false := decide_eq_false c32; clear c32; have H' := Aside0.mk H; clear H
             try go_wp2
             replace BK191 := Aside0.mk (blk_drew BK191.out); replace BK194 := Aside0.mk (blk_drew BK194.out); replace HB := Aside0.mk (below_drew1 HB.out); refine start_ (n := 13) (S := fun w' => True) (ds := []) bl0 (by kernel_rfl) rfl rfl trivial (fun hHeld => ?_); refine with_tabW impl_AutoOk.tab8 impl_AutoOk.bits8 (fun HT_ HW_ => ?_); generalize wc.drew = w42 at BK191 BK194 HB hHeld ⊢
             refine pu 0 (some 52) bl1 HT_ ?_ rfl rfl (.inl ⟨by rfl, ?_⟩) ?_ ?_ ?_; rotate_left; (intro w'; go_simp; with_reducible rfl); rotate_left; (simp only [Act.put, q5]; rfl)
             refine pu 1 (some 53) bl2 HT_ ?_ rfl rfl (.inl ⟨by rfl, ?_⟩) ?_ ?_ ?_; rotate_left; (intro w'; go_simp; with_reducible rfl); rotate_left; (simp only [Act.put, q5]; rfl)
             refine pu 2 (some 54) bl3 HT_ ?_ rfl rfl (.inl ⟨by rfl, ?_⟩) ?_ ?_ ?_; rotate_left; (intro w'; go_simp; with_reducible rfl); rotate_left; (simp only [Act.put, q5]; rfl)
             refine pu 3 (some 55) bl4 HT_ undef rfl rfl (.inr ⟨by rfl, rfl⟩) ?_ ?_ ?_; rotate_left; (simp only [Act.put, q5]; rfl)
             refine pu 4 (some 56) bl14 HT_ undef rfl rfl (.inr ⟨by rfl, rfl⟩) ?_ ?_ ?_; rotate_left; (simp only [Act.put, q5]; rfl)
             refine pu 5 (some 57) bl15 HT_ undef rfl rfl (.inr ⟨by rfl, rfl⟩) ?_ ?_ ?_; rotate_left; (simp only [Act.put, q5]; rfl)
             refine pu 6 (some 58) bl7 HT_ undef rfl rfl (.inr ⟨by rfl, rfl⟩) ?_ ?_ ?_; rotate_left; (simp only [Act.put, q5]; rfl)
             refine pu 7 (some 59) bl8 HT_ undef rfl rfl (.inr ⟨by rfl, rfl⟩) ?_ ?_ ?_; rotate_left; (simp only [Act.put, q5]; rfl)
             refine pu 8 (some 60) bl9 HT_ undef rfl rfl (.inr ⟨by rfl, rfl⟩) ?_ ?_ ?_; rotate_left; (simp only [Act.put, q5]; rfl)
             refine pu 9 (some 61) bl10 HT_ undef rfl rfl (.inr ⟨by rfl, rfl⟩) ?_ ?_ ?_; rotate_left; (simp only [Act.put, q5]; rfl)
             refine pu 10 (some 62) bl11 HT_ undef rfl rfl (.inr ⟨by rfl, rfl⟩) ?_ ?_ ?_; rotate_left; (simp only [Act.put, q5]; rfl)
             refine pu 11 (some 63) bl12 HT_ undef rfl rfl (.inr ⟨by rfl, rfl⟩) ?_ ?_ ?_; rotate_left; (simp only [Act.put, q5]; rfl)
             refine pu 12 (some 64) bl13 HT_ ?_ rfl rfl (.inl ⟨by rfl, ?_⟩) ?_ ?_ ?_; rotate_left; (intro w'; go_simp; with_reducible rfl); rotate_left; (simp only [Act.put, q5]; rfl)
             refine done_ (done_of HT_.out (by kernel_rfl)) ?_
             try go_wp2
             go_roundg kj12
             case measure => have := HJ1.out; have := HK2.out; have := HJ12.out; omega
             case rel => exact ⟨(wrap64 (x22_2 + 1)), (by first | rfl | (simp; done) | (simp [*]; done)), H', ⟨by have := HJ1.out; have := HK2.out; have := HJ12.out; omega⟩, ⟨zB BK191.out⟩, ⟨zS HB.out⟩⟩
        ·rw [if_neg c12] at H; exact absurd H (by simp)
       ·rw [if_neg c11] at H; exact absurd H (by simp)
      ·rw [if_neg c10] at H; have c10b0 : decide (x22_2 < (l0_3.length : Int)) = false := decide_eq_false c10; clear c10; obtain rfl := Option.some.inj H
       go_wp2
       go_ret; exact ⟨by first | rfl | (simp [errW_none, errW_some] <;> rfl) | (simp [*, errW_none, errW_some] <;> rfl), by repeat (first | (with_reducible first | exact HB.out | apply below_alloc | apply pw_below_drewN | apply below_drew1 | refine below_set ?_ GE191.out) | exact HB.out)⟩


/-! ### impl_genOf: function 84 -/
def impl_genOf.l0 : Nat → List (S68) → Int → Int → Int → Int → Int → Int → List (S94) → Option (Int × Int × Int × Int × (List (S94)))
 | 0, _, _, _, _, _, _, _, _ => none
 | k + 1, x15, x16, x17, x203000, x203001, x203002, x203003, x203004 => if x17 < x16 then (if 0 ≤ x17 then (if x17 < (x15.length : Int) then (if (rd_T68 x15 x17).f3 = true then (if x203004.length < 4398046511104 then (impl_genOf.l0 k x15 x16 (wrap64 (x17 + 1)) x203000 x203001 x203002 x203003 (x203004 ++ [(⟨(rd_T68 x15 x17).f0, (rd_T68 x15 x17).f1, (rd_T68 x15 x17).f2, 1⟩ : S94)])) else (none)) else (if x203004.length < 4398046511104 then (impl_genOf.l0 k x15 x16 (wrap64 (x17 + 1)) x203000 x203001 x203002 x203003 (x203004 ++ [(⟨(rd_T68 x15 x17).f0, (rd_T68 x15 x17).f1, (rd_T68 x15 x17).f2, 0⟩ : S94)])) else (none))) else (none)) else (none)) else (some (x203000, x203001, x203002, x203003, x203004))
def impl_genOf.f (k : Nat) (a0_0 : Int) (a0_1 : Int) (a0_2 : Int) (l0_3 : List (S68)) : Option (Int × Int × Int × Int × (List (S94))) := impl_genOf.l0 k l0_3 (l0_3.length : Int) 0 a0_0 a0_1 a0_2 1 ([] : List (S94))
theorem impl_genOf.mono_l : ∀ k, (∀ y0 y1 y2 y3 y4 y5 y6 y7, LeO (impl_genOf.l0 k y0 y1 y2 y3 y4 y5 y6 y7) (impl_genOf.l0 (k + 1) y0 y1 y2 y3 y4 y5 y6 y7))
 | 0 => fun _ _ _ _ _ _ _ _ r h => by simp [impl_genOf.l0] at h
 | k + 1 => by
  have ih0 := impl_genOf.mono_l k
  ·intro y0 y1 y2 y3 y4 y5 y6 y7
   unfold impl_genOf.l0
   repeat' first
   | (with_reducible exact ih0 _ _ _ _ _ _ _ _)
   | (with_reducible exact LeO.refl _)
   | (with_reducible exact LeO.none _)
   | (with_reducible refine LeO.ite ?_ ?_)
   | (with_reducible refine LeO.bind ?_ (fun _ => ?_))
   | exact ih0 _ _ _ _ _ _ _ _
   | exact LeO.none _
   | refine LeO.ite ?_ ?_
   | refine LeO.bind ?_ (fun _ => ?_)
theorem impl_genOf.mono : ∀ a0 a1 a2 a3 k, LeO (impl_genOf.f k a0 a1 a2 a3) (impl_genOf.f (k + 1) a0 a1 a2 a3) := by
 intro a0 a1 a2 a3 k
 have ih0 := impl_genOf.mono_l k
 unfold impl_genOf.f
 repeat' first
   | (with_reducible exact ih0 _ _ _ _ _ _ _ _)
   | (with_reducible exact LeO.refl _)
   | (with_reducible exact LeO.none _)
   | (with_reducible refine LeO.ite ?_ ?_)
   | (with_reducible refine LeO.bind ?_ (fun _ => ?_))
   | exact ih0 _ _ _ _ _ _ _ _
   | exact LeO.none _
   | refine LeO.ite ?_ ?_
   | refine LeO.bind ?_ (fun _ => ?_)
open Go.Proofs.Ytlallflpicgcmaa.Short2 in
set_option maxHeartbeats 8000000 in
set_option maxRecDepth 100000 in
theorem impl_genOf.calls (k : Nat) (a0_0 : Int) (a0_1 : Int) (a0_2 : Int) (A0_3 : Option Addr) (c0_3 : Nat) (l0_3 : List (S68)) (r1 : Int) (r2 : Int) (r3 : Int) (r4 : Int) (r5 : List (S94)) (w : World) (hr0_3 : Kd.C k68 w A0_3 l0_3.length l0_3) (hc0_3 : l0_3.length ≤ c0_3) (h : impl_genOf.f k a0_0 a0_1 a0_2 l0_3 = some (r1, r2, r3, r4, r5)) :
  Calls Try.prog 84 #[.agg #[.int .i64 a0_0, .int .i64 a0_1, .int .i64 a0_2, .slice A0_3 l0_3.length c0_3]] w fun e w' => ∃ v4_ : Value, e = .returned (.agg #[.int .i64 r1, .int .i64 r2, .int .i64 r3, .int .i64 r4, v4_]) ∧ Kd.R k94 94 w' w.heap.size (fun _ => True) v4_ r5 ∧ Below w.heap.size w w' := by
 have hu24 := Try.underlying24; have hu43 := Try.underlying43; have hu68 := Try.underlying68; have hu94 := Try.underlying94; have HR0_3 := Aside0.mk hr0_3; have HC0_3 := Aside0.mk hc0_3; clear hr0_3 hc0_3; have HB := Aside0.mk (Below.refl w.heap.size w); have H : (impl_genOf.l0 k l0_3 (l0_3.length : Int) 0 a0_0 a0_1 a0_2 1 ([] : List (S94))) = some (r1, r2, r3, r4, r5) := h; clear h; have H' := Aside0.mk H; clear H
 go_enter Try.func84, Try.ntmps84
 go_wp2_with (first | ((with_reducible refine gate_dst (N := 1) rfl ?_); refine box_event ?hg (N := 1) ?hd (cs := #[.int .i64 a0_0, .int .i64 a0_1, .int .i64 a0_2, .slice A0_3 l0_3.length c0_3]) (t := 24) ?hr ?_; (case hd => rfl); (case hg => rfl); (case hr => first | (go_simp; done) | (go_simp; rfl)); intro gb200 hg w2 hbox hb; have BK200 := Aside0.mk (hbox); have GW200 := xG HB hg; have GE200 := xG HB hg; replace HB := xS HB hb; clear hb hbox hg) | ((with_reducible refine gate_dst (N := 2) rfl ?_); refine box_event ?hg (N := 2) ?hd (cs := #[.int .i64 0, .int .i64 0, .int .i64 0, .int .i64 0, .slice none 0 0]) (t := 43) ?hr ?_; (case hd => rfl); (case hg => rfl); (case hr => first | (go_simp; done) | (go_simp; rfl)); intro gb201 hg w3 hbox hb; have BK201 := Aside0.mk (hbox); have GW201 := xG HB hg; have GE201 := xG HB hg; replace HB := xS HB hb; have NB200_201 := xN BK200 hg; have NB201_200 := xM BK200 hg; replace BK200 := xB BK200 hb; clear hb hbox hg; have hnb4 := NB200_201.out; have hnc4 := NB201_200.out; have hcz5_0 : w3.cell? ⟨gb200, 0, none⟩ = some (.int .i64 a0_0) := b1 BK200 0; have hcz5_1 : w3.cell? ⟨gb200, 1, none⟩ = some (.int .i64 a0_1) := b1 BK200 1; have hcz5_2 : w3.cell? ⟨gb200, 2, none⟩ = some (.int .i64 a0_2) := b1 BK200 2; have hcz5_3 : w3.cell? ⟨gb200, 3, none⟩ = some (.slice A0_3 l0_3.length c0_3) := b1 BK200 3; have hfz5_0 := blk_frozen BK200.out 0; have hfz5_1 := blk_frozen BK200.out 1; have hfz5_2 := blk_frozen BK200.out 2; have hfz5_3 := blk_frozen BK200.out 3) | ((with_reducible refine gate_dst (N := 3) rfl ?_); refine box_event ?hg (N := 3) ?hd (cs := #[.int .i64 0, .int .i64 0, .int .i64 0, .int .i64 0, .slice none 0 0]) (t := 43) ?hr ?_; (case hd => rfl); (case hg => rfl); (case hr => first | (go_simp; done) | (go_simp; rfl)); intro gb202 hg w6 hbox hb; have BK202 := Aside0.mk (hbox); have GW202 := xG HB hg; have GE202 := xG HB hg; replace HB := xS HB hb; have NB200_202 := xN BK200 hg; have NB202_200 := xM BK200 hg; replace BK200 := xB BK200 hb; have NB201_202 := xN BK201 hg; have NB202_201 := xM BK201 hg; replace BK201 := xB BK201 hb; clear hb hbox hg; have hnb7 := NB202_200.out; have hnc7 := NB200_202.out; have hnb8 := NB202_201.out; have hnc8 := NB201_202.out; have hcz9_0 : w6.cell? ⟨gb202, 0, none⟩ = some (.int .i64 0) := b1 BK202 0; have hcz9_1 : w6.cell? ⟨gb202, 1, none⟩ = some (.int .i64 0) := b1 BK202 1; have hcz9_2 : w6.cell? ⟨gb202, 2, none⟩ = some (.int .i64 0) := b1 BK202 2; have hcz9_3 : w6.cell? ⟨gb202, 3, none⟩ = some (.int .i64 0) := b1 BK202 3; have hcz9_4 : w6.cell? ⟨gb202, 4, none⟩ = some (.slice none 0 0) := b1 BK202 4; have hfz9_0 := blk_frozen BK202.out 0; have hfz9_1 := blk_frozen BK202.out 1; have hfz9_2 := blk_frozen BK202.out 2; have hfz9_3 := blk_frozen BK202.out 3; have hfz9_4 := blk_frozen BK202.out 4; have hcz10_0 : w6.cell? ⟨gb200, 0, none⟩ = some (.int .i64 a0_0) := b1 BK200 0; have hcz10_1 : w6.cell? ⟨gb200, 1, none⟩ = some (.int .i64 a0_1) := b1 BK200 1; have hcz10_2 : w6.cell? ⟨gb200, 2, none⟩ = some (.int .i64 a0_2) := b1 BK200 2; have hcz10_3 : w6.cell? ⟨gb200, 3, none⟩ = some (.slice A0_3 l0_3.length c0_3) := b1 BK200 3; have hfz10_0 := blk_frozen BK200.out 0; have hfz10_1 := blk_frozen BK200.out 1; have hfz10_2 := blk_frozen BK200.out 2; have hfz10_3 := blk_frozen BK200.out 3))
 go_loopg [17] k (fun kq v17 w' => ∃ (x17_1 : Int) (x203004_1 : List (S94)) (u203004 : Value), v17 = .int .i64 x17_1 ∧ Aside0 (impl_genOf.l0 kq l0_3 (l0_3.length : Int) x17_1 a0_0 a0_1 a0_2 1 x203004_1 = some (r1, r2, r3, r4, r5)) ∧ Aside0 (kq ≤ k) ∧ Aside0 (Kd.R k94 94 w' w.heap.size (fun _ => True) u203004 x203004_1) ∧ Aside0 (w'.heap[gb200]? = some (.cells #[.int .i64 a0_0, .int .i64 a0_1, .int .i64 a0_2, (.slice A0_3 l0_3.length c0_3)] 24 (0, 0))) ∧ Aside0 (w'.heap[gb201]? = some (.cells #[.int .i64 0, .int .i64 0, .int .i64 0, .int .i64 0, (.slice none 0 0)] 43 (0, 0))) ∧ Aside0 (w'.heap[gb202]? = some (.cells #[.int .i64 a0_0, .int .i64 a0_1, .int .i64 a0_2, .int .i64 1, u203004] 43 (0, 0))) ∧ Aside0 (Below w.heap.size w w'))
 case atStart => exact ⟨(0), (([] : List (S94))), (.slice none 0 0), (by first | rfl | (simp; done) | (simp [*]; done)), H', ⟨Nat.le_refl _⟩, ⟨by first | exact Kd.R_nil _ _ _ _ _ | exact Kd.N_nil _ _ _ _ _ | exact Kd.V_nil _ _ _ _ _ | exact Kd.Q_nil _ _ _ _ _ | exact Kd.S_nil _ _ _ _ _⟩, ⟨zB BK200.out⟩, ⟨zB BK201.out⟩, ⟨by (with_reducible repeat (first | refine blk_drewN ?_ _ | refine blk_drew ?_ | refine blk_alloc ?_ _)); refine blk_put (cs := #[.int .i64 a0_0, .int .i64 a0_1, .int .i64 a0_2, .int .i64 1, .slice none 0 0]) ?_ 4 _ rfl; (with_reducible repeat (first | refine blk_drewN ?_ _ | refine blk_drew ?_ | refine blk_alloc ?_ _)); refine blk_put (cs := #[.int .i64 a0_0, .int .i64 a0_1, .int .i64 a0_2, .int .i64 0, .slice none 0 0]) ?_ 3 _ rfl; (with_reducible repeat (first | refine blk_drewN ?_ _ | refine blk_drew ?_ | refine blk_alloc ?_ _)); refine blk_put (cs := #[.int .i64 a0_0, .int .i64 a0_1, .int .i64 0, .int .i64 0, .slice none 0 0]) ?_ 2 _ rfl; (with_reducible repeat (first | refine blk_drewN ?_ _ | refine blk_drew ?_ | refine blk_alloc ?_ _)); refine blk_put (cs := #[.int .i64 a0_0, .int .i64 0, .int .i64 0, .int .i64 0, .slice none 0 0]) ?_ 1 _ rfl; (with_reducible repeat (first | refine blk_drewN ?_ _ | refine blk_drew ?_ | refine blk_alloc ?_ _)); refine blk_put (cs := #[.int .i64 0, .int .i64 0, .int .i64 0, .int .i64 0, .slice none 0 0]) ?_ 0 _ rfl; (with_reducible repeat (first | refine blk_drewN ?_ _ | refine blk_drew ?_ | refine blk_alloc ?_ _)); exact BK202.out⟩, ⟨zS HB.out⟩⟩
 case round =>
  clear H'
  try clear p2
  try clear c4
  try clear c7
  try clear c8
  try clear hcz10_0
  try clear hcz10_1
  try clear hcz10_2
  try clear hcz10_3
  try clear hcz5_0
  try clear hcz5_1
  try clear hcz5_2
  try clear hcz5_3
  try clear hcz9_0
  try clear hcz9_1
  try clear hcz9_2
  try clear hcz9_3
  try clear hcz9_4
  try clear hfz10_0
  try clear hfz10_1
  try clear hfz10_2
  try clear hfz10_3
  try clear hfz5_0
  try clear hfz5_1
  try clear hfz5_2
  try clear hfz5_3
  try clear hfz9_0
  try clear hfz9_1
  try clear hfz9_2
  try clear hfz9_3
  try clear hfz9_4
  obtain ⟨x17_1, x203004_1, u203004, rfl, HA, HK1, HO_203004, BK200, BK201, BK202, HB⟩ := hrel
  cases gk with
  | zero => exact absurd HA.out (by simp [impl_genOf.l0])
  | succ k1 =>
   have H := HA.out; clear HA; simp only [impl_genOf.l0] at H
   by_cases c11 : x17_1 < (l0_3.length : Int)
   ·rw [if_pos c11] at H; have c11b0 : decide (x17_1 < (l0_3.length : Int)) = true := decide_eq_true c11; clear c11
    by_cases c12 : 0 ≤ x17_1
    ·rw [if_pos c12] at H; have c12b0 : decide (0 ≤ x17_1) = true := decide_eq_true c12; clear c12
     by_cases c13 : x17_1 < (l0_3.length : Int)
     ·rw [if_pos c13] at H; have c13b0 : decide (x17_1 < (l0_3.length : Int)) = true := decide_eq_true c13; clear c13; obtain ⟨bq14, hbq14⟩ : ∃ b_ : Bool, b_ = ((rd_T68 l0_3 x17_1).f3) := ⟨_, rfl⟩
      replace H : (if bq14 = true then (if x203004_1.length < 4398046511104 then (impl_genOf.l0 k1 l0_3 (l0_3.length : Int) (wrap64 (x17_1 + 1)) a0_0 a0_1 a0_2 1 (x203004_1 ++ [(⟨(rd_T68 l0_3 x17_1).f0, (rd_T68 l0_3 x17_1).f1, (rd_T68 l0_3 x17_1).f2, 1⟩ : S94)])) else (none)) else (if x203004_1.length < 4398046511104 then (impl_genOf.l0 k1 l0_3 (l0_3.length : Int) (wrap64 (x17_1 + 1)) a0_0 a0_1 a0_2 1 (x203004_1 ++ [(⟨(rd_T68 l0_3 x17_1).f0, (rd_T68 l0_3 x17_1).f1, (rd_T68 l0_3 x17_1).f2, 0⟩ : S94)])) else (none))) = some (r1, r2, r3, r4, r5) := by rw [← hbq14] at H; exact H
      have Nbq14 := Aside0.mk hbq14; clear hbq14
      by_cases c15 : bq14 = true
      ·subst c15
       have H1 : (if x203004_1.length < 4398046511104 then (impl_genOf.l0 k1 l0_3 (l0_3.length : Int) (wrap64 (x17_1 + 1)) a0_0 a0_1 a0_2 1 (x203004_1 ++ [(⟨(rd_T68 l0_3 x17_1).f0, (rd_T68 l0_3 x17_1).f1, (rd_T68 l0_3 x17_1).f2, 1⟩ : S94)])) else (none)) = some (r1, r2, r3, r4, r5) := by rw [if_pos rfl] at H; exact H
       clear H; have H := H1; clear H1
       by_cases c16 : x203004_1.length < 4398046511104
       ·rw [if_pos c16] at H; have LMc16 := Aside0.mk c16; clear c16; obtain ⟨y206, hy206⟩ : ∃ y_ : List (S94), y_ = (x203004_1 ++ [(⟨(rd_T68 l0_3 x17_1).f0, (rd_T68 l0_3 x17_1).f1, (rd_T68 l0_3 x17_1).f2, 1⟩ : S94)]) := ⟨_, rfl⟩
        replace H : (impl_genOf.l0 k1 l0_3 (l0_3.length : Int) (wrap64 (x17_1 + 1)) a0_0 a0_1 a0_2 1 y206) = some (r1, r2, r3, r4, r5) := by first | (rw [hy206]; with_reducible exact H) | (have H2_ := (Option.bind_some _ _).symm.trans H; rw [hy206]; with_reducible exact H2_) | (have H2_ := (Option.bind_some _ _).symm.trans H; with_reducible exact H2_) | with_reducible exact H | (rw [hy206]; exact H) | exact H
        have Ny206 := Aside0.mk hy206; clear hy206; have H' := Aside0.mk H; clear H; have p203 : 0 ≤ (x17_1 : Int) := of_decide_eq_true (by first | (with_reducible assumption) | assumption); have q203 : x17_1 < (l0_3.length : Int) := of_decide_eq_true (by first | (with_reducible assumption) | assumption); obtain ⟨ad203, e203, hx203_0, hx203_1, hx203_2, hx203_3⟩ := at_T68 HR0_3.out x17_1 p203 q203
        (try rw [← Nbq14.out] at hx203_3)
        cases e203
        replace hx203_0 := (HB.out.cell (World.block_lt_of_cell? w _ hx203_0)).trans hx203_0; replace hx203_1 := (HB.out.cell (World.block_lt_of_cell? w _ hx203_1)).trans hx203_1; replace hx203_2 := (HB.out.cell (World.block_lt_of_cell? w _ hx203_2)).trans hx203_2; replace hx203_3 := (HB.out.cell (World.block_lt_of_cell? w _ hx203_3)).trans hx203_3; replace p203 := eq_true p203; replace q203 := eq_true q203
        go_upto_region 8 with (first | ((with_reducible refine gate_dst (N := 5) rfl ?_); refine box_event ?hg (N := 5) ?hd (cs := #[.int .i64 0, .int .i64 0, .int .i64 0, .bool false]) (t := 68) ?hr ?_; (case hd => rfl); (case hg => rfl); (case hr => first | (go_simp; done) | (go_simp; rfl)); intro gb204 hg w17 hbox hb; replace HO_203004 := xR HO_203004 hb; have BK204 := Aside0.mk (hbox); have GW204 := xG HB hg; have GE204 := xG HB hg; replace HB := xS HB hb; have NB200_204 := xN BK200 hg; have NB204_200 := xM BK200 hg; replace BK200 := xB BK200 hb; have NB201_204 := xN BK201 hg; have NB204_201 := xM BK201 hg; replace BK201 := xB BK201 hb; have NB202_204 := xN BK202 hg; have NB204_202 := xM BK202 hg; replace BK202 := xB BK202 hb; clear hb hbox hg; have hnb18 := NB204_200.out; have hnc18 := NB200_204.out; have hnb19 := NB204_201.out; have hnc19 := NB201_204.out; have hnb20 := NB204_202.out; have hnc20 := NB202_204.out; have hcz21_0 : w17.cell? ⟨gb204, 0, none⟩ = some (.int .i64 0) := b1 BK204 0; have hcz21_1 : w17.cell? ⟨gb204, 1, none⟩ = some (.int .i64 0) := b1 BK204 1; have hcz21_2 : w17.cell? ⟨gb204, 2, none⟩ = some (.int .i64 0) := b1 BK204 2; have hcz21_3 : w17.cell? ⟨gb204, 3, none⟩ = some (.bool false) := b1 BK204 3; have hfz21_0 := blk_frozen BK204.out 0; have hfz21_1 := blk_frozen BK204.out 1; have hfz21_2 := blk_frozen BK204.out 2; have hfz21_3 := blk_frozen BK204.out 3) | ((with_reducible refine gate_dst (N := 6) rfl ?_); refine box_event ?hg (N := 6) ?hd (cs := #[.int .i64 0, .int .i64 0, .int .i64 0, .int .i64 0]) (t := 94) ?hr ?_; (case hd => rfl); (case hg => rfl); (case hr => first | (go_simp; done) | (go_simp; rfl)); intro gb205 hg w22 hbox hb; replace HO_203004 := Aside0.mk (Kd.R_below (Kd.R_elderB (zR (xF4 HO_203004 BK204)) gb205 (Nat.le_of_eq hg.symm)) hb); have BK205 := Aside0.mk (hbox); have GW205 := xG HB hg; have GE205 := xG HB hg; replace HB := xS HB hb; have NB200_205 := xN BK200 hg; have NB205_200 := xM BK200 hg; replace BK200 := xB BK200 hb; have NB201_205 := xN BK201 hg; have NB205_201 := xM BK201 hg; replace BK201 := xB BK201 hb; have NB202_205 := xN BK202 hg; have NB205_202 := xM BK202 hg; replace BK202 := xB BK202 hb; have NB204_205 := Aside0.mk ((by rw [hg]; exact Nat.ne_of_lt (blk_lt (g := gb204) (o := .cells #[.int .i64 ((rd_T68 l0_3 x17_1).f0), .int .i64 ((rd_T68 l0_3 x17_1).f1), .int .i64 ((rd_T68 l0_3 x17_1).f2), .bool true] 68 (0, 0)) (xP4 BK204.out)) : gb204 ≠ gb205)); have NB205_204 := Aside0.mk ((by rw [hg]; exact Nat.ne_of_gt (blk_lt (g := gb204) (o := .cells #[.int .i64 ((rd_T68 l0_3 x17_1).f0), .int .i64 ((rd_T68 l0_3 x17_1).f1), .int .i64 ((rd_T68 l0_3 x17_1).f2), .bool true] 68 (0, 0)) (xP4 BK204.out)) : gb205 ≠ gb204)); replace BK204 := Aside0.mk (blk_below (g := gb204) (o := .cells #[.int .i64 ((rd_T68 l0_3 x17_1).f0), .int .i64 ((rd_T68 l0_3 x17_1).f1), .int .i64 ((rd_T68 l0_3 x17_1).f2), .bool true] 68 (0, 0)) (xP4 BK204.out) hb); clear hb hbox hg; have hnb23 := NB205_200.out; have hnc23 := NB200_205.out; have hnb24 := NB205_201.out; have hnc24 := NB201_205.out; have hnb25 := NB205_202.out; have hnc25 := NB202_205.out; have hnb26 := NB205_204.out; have hnc26 := NB204_205.out; have hcz27_0 : w22.cell? ⟨gb205, 0, none⟩ = some (.int .i64 0) := b1 BK205 0; have hcz27_1 : w22.cell? ⟨gb205, 1, none⟩ = some (.int .i64 0) := b1 BK205 1; have hcz27_2 : w22.cell? ⟨gb205, 2, none⟩ = some (.int .i64 0) := b1 BK205 2; have hcz27_3 : w22.cell? ⟨gb205, 3, none⟩ = some (.int .i64 0) := b1 BK205 3; have hfz27_0 := blk_frozen BK205.out 0; have hfz27_1 := blk_frozen BK205.out 1; have hfz27_2 := blk_frozen BK205.out 2; have hfz27_3 := blk_frozen BK205.out 3; have hcz28_0 : w22.cell? ⟨gb204, 0, none⟩ = some (.int .i64 ((rd_T68 l0_3 x17_1).f0)) := b1 BK204 0; have hcz28_1 : w22.cell? ⟨gb204, 1, none⟩ = some (.int .i64 ((rd_T68 l0_3 x17_1).f1)) := b1 BK204 1; have hcz28_2 : w22.cell? ⟨gb204, 2, none⟩ = some (.int .i64 ((rd_T68 l0_3 x17_1).f2)) := b1 BK204 2; have hcz28_3 : w22.cell? ⟨gb204, 3, none⟩ = some (.bool true) := b1 BK204 3; have hfz28_0 := blk_frozen BK204.out 0; have hfz28_1 := blk_frozen BK204.out 1; have hfz28_2 := blk_frozen BK204.out 2; have hfz28_3 := blk_frozen BK204.out 3; have hnb29 := NB202_200.out; have hnc29 := NB200_202.out; have hnb30 := NB202_201.out; have hnc30 := NB201_202.out; have hcz31_0 : w22.cell? ⟨gb202, 0, none⟩ = some (.int .i64 a0_0) := b1 BK202 0; have hcz31_1 : w22.cell? ⟨gb202, 1, none⟩ = some (.int .i64 a0_1) := b1 BK202 1; have hcz31_2 : w22.cell? ⟨gb202, 2, none⟩ = some (.int .i64 a0_2) := b1 BK202 2; have hcz31_3 : w22.cell? ⟨gb202, 3, none⟩ = some (.int .i64 1) := b1 BK202 3; have hcz31_4 : w22.cell? ⟨gb202, 4, none⟩ = some (u203004) := b1 BK202 4; have hfz31_0 := blk_frozen BK202.out 0; have hfz31_1 := blk_frozen BK202.out 1; have hfz31_2 := blk_frozen BK202.out 2; have hfz31_3 := blk_frozen BK202.out 3; have hfz31_4 := blk_frozen BK202.out 4))
        have z0_ : Aside0 ((((((w22.setCell ⟨gb205, 0, none⟩ (.int .i64 ((rd_T68 l0_3 x17_1).f0))).setCell ⟨gb205, 1, none⟩ (.int .i64 ((rd_T68 l0_3 x17_1).f1))).setCell ⟨gb205, 2, none⟩ (.int .i64 ((rd_T68 l0_3 x17_1).f2))).setCell ⟨gb205, 3, none⟩ (.int .i64 0)).setCell ⟨gb205, 3, none⟩ (.int .i64 1)).heap[gb200]? = some (.cells #[.int .i64 a0_0, .int .i64 a0_1, .int .i64 a0_2, .slice (some ad203) l0_3.length c0_3] 24 (0, 0))) := ⟨(zB BK200.out)⟩; have z1_ : Aside0 ((((((w22.setCell ⟨gb205, 0, none⟩ (.int .i64 ((rd_T68 l0_3 x17_1).f0))).setCell ⟨gb205, 1, none⟩ (.int .i64 ((rd_T68 l0_3 x17_1).f1))).setCell ⟨gb205, 2, none⟩ (.int .i64 ((rd_T68 l0_3 x17_1).f2))).setCell ⟨gb205, 3, none⟩ (.int .i64 0)).setCell ⟨gb205, 3, none⟩ (.int .i64 1)).heap[gb201]? = some (.cells #[.int .i64 0, .int .i64 0, .int .i64 0, .int .i64 0, .slice none 0 0] 43 (0, 0))) := ⟨(zB BK201.out)⟩; have z2_ : Aside0 ((((((w22.setCell ⟨gb205, 0, none⟩ (.int .i64 ((rd_T68 l0_3 x17_1).f0))).setCell ⟨gb205, 1, none⟩ (.int .i64 ((rd_T68 l0_3 x17_1).f1))).setCell ⟨gb205, 2, none⟩ (.int .i64 ((rd_T68 l0_3 x17_1).f2))).setCell ⟨gb205, 3, none⟩ (.int .i64 0)).setCell ⟨gb205, 3, none⟩ (.int .i64 1)).heap[gb202]? = some (.cells #[.int .i64 a0_0, .int .i64 a0_1, .int .i64 a0_2, .int .i64 1, u203004] 43 (0, 0))) := ⟨(zB BK202.out)⟩; have z3_ : Aside0 ((((((w22.setCell ⟨gb205, 0, none⟩ (.int .i64 ((rd_T68 l0_3 x17_1).f0))).setCell ⟨gb205, 1, none⟩ (.int .i64 ((rd_T68 l0_3 x17_1).f1))).setCell ⟨gb205, 2, none⟩ (.int .i64 ((rd_T68 l0_3 x17_1).f2))).setCell ⟨gb205, 3, none⟩ (.int .i64 0)).setCell ⟨gb205, 3, none⟩ (.int .i64 1)).heap[gb204]? = some (.cells #[.int .i64 ((rd_T68 l0_3 x17_1).f0), .int .i64 ((rd_T68 l0_3 x17_1).f1), .int .i64 ((rd_T68 l0_3 x17_1).f2), .bool true] 68 (0, 0))) := ⟨(zB BK204.out)⟩
        have z4_ : Aside0 ((((((w22.setCell ⟨gb205, 0, none⟩ (.int .i64 ((rd_T68 l0_3 x17_1).f0))).setCell ⟨gb205, 1, none⟩ (.int .i64 ((rd_T68 l0_3 x17_1).f1))).setCell ⟨gb205, 2, none⟩ (.int .i64 ((rd_T68 l0_3 x17_1).f2))).setCell ⟨gb205, 3, none⟩ (.int .i64 0)).setCell ⟨gb205, 3, none⟩ (.int .i64 1)).heap[gb205]? = some (.cells #[.int .i64 ((rd_T68 l0_3 x17_1).f0), .int .i64 ((rd_T68 l0_3 x17_1).f1), .int .i64 ((rd_T68 l0_3 x17_1).f2), .int .i64 1] 94 (0, 0))) := ⟨(by (with_reducible repeat (first | refine blk_drewN ?_ _ | refine blk_drew ?_ | refine blk_alloc ?_ _)); refine blk_put (cs := #[.int .i64 ((rd_T68 l0_3 x17_1).f0), .int .i64 ((rd_T68 l0_3 x17_1).f1), .int .i64 ((rd_T68 l0_3 x17_1).f2), .int .i64 0]) ?_ 3 _ rfl; (with_reducible repeat (first | refine blk_drewN ?_ _ | refine blk_drew ?_ | refine blk_alloc ?_ _)); refine blk_put (cs := #[.int .i64 ((rd_T68 l0_3 x17_1).f0), .int .i64 ((rd_T68 l0_3 x17_1).f1), .int .i64 ((rd_T68 l0_3 x17_1).f2), .int .i64 0]) ?_ 3 _ rfl; (with_reducible repeat (first | refine blk_drewN ?_ _ | refine blk_drew ?_ | refine blk_alloc ?_ _)); refine blk_put (cs := #[.int .i64 ((rd_T68 l0_3 x17_1).f0), .int .i64 ((rd_T68 l0_3 x17_1).f1), .int .i64 0, .int .i64 0]) ?_ 2 _ rfl; (with_reducible repeat (first | refine blk_drewN ?_ _ | refine blk_drew ?_ | refine blk_alloc ?_ _)); refine blk_put (cs := #[.int .i64 ((rd_T68 l0_3 x17_1).f0), .int .i64 0, .int .i64 0, .int .i64 0]) ?_ 1 _ rfl; (with_reducible repeat (first | refine blk_drewN ?_ _ | refine blk_drew ?_ | refine blk_alloc ?_ _)); refine blk_put (cs := #[.int .i64 0, .int .i64 0, .int .i64 0, .int .i64 0]) ?_ 0 _ rfl; (with_reducible repeat (first | refine blk_drewN ?_ _ | refine blk_drew ?_ | refine blk_alloc ?_ _)); exact BK205.out)⟩; have zo_ := Aside0.mk (Kd.R_mono (Kd.R_far (p := ⟨gb205, 3, none⟩) (Kd.R_far (p := ⟨gb205, 3, none⟩) (Kd.R_far (p := ⟨gb205, 2, none⟩) (Kd.R_far (p := ⟨gb205, 1, none⟩) (Kd.R_far (p := ⟨gb205, 0, none⟩) (Kd.R_mono HO_203004.out (fun k_ hk => (⟨hk, hk.2⟩ : _ ∧ k_ ≠ gb205))) (fun _ hk => hk.2) (.int .i64 ((rd_T68 l0_3 x17_1).f0))) (fun _ hk => hk.2) (.int .i64 ((rd_T68 l0_3 x17_1).f1))) (fun _ hk => hk.2) (.int .i64 ((rd_T68 l0_3 x17_1).f2))) (fun _ hk => hk.2) (.int .i64 0)) (fun _ hk => hk.2) (.int .i64 1)) (fun _ hk => hk.1)); have zb_ : Aside0 (Below w.heap.size w (((((w22.setCell ⟨gb205, 0, none⟩ (.int .i64 ((rd_T68 l0_3 x17_1).f0))).setCell ⟨gb205, 1, none⟩ (.int .i64 ((rd_T68 l0_3 x17_1).f1))).setCell ⟨gb205, 2, none⟩ (.int .i64 ((rd_T68 l0_3 x17_1).f2))).setCell ⟨gb205, 3, none⟩ (.int .i64 0)).setCell ⟨gb205, 3, none⟩ (.int .i64 1))) := ⟨(zS HB.out)⟩; generalize (((((w22.setCell ⟨gb205, 0, none⟩ (.int .i64 ((rd_T68 l0_3 x17_1).f0))).setCell ⟨gb205, 1, none⟩ (.int .i64 ((rd_T68 l0_3 x17_1).f1))).setCell ⟨gb205, 2, none⟩ (.int .i64 ((rd_T68 l0_3 x17_1).f2))).setCell ⟨gb205, 3, none⟩ (.int .i64 0)).setCell ⟨gb205, 3, none⟩ (.int .i64 1)) = wz at z0_ z1_ z2_ z3_ z4_ zo_ zb_ ⊢
        clear BK200 BK201 BK202 BK204 BK205 HO_203004 HB; have BK200 := z0_; have BK201 := z1_; have BK202 := z2_; have BK204 := z3_; have BK205 := z4_; have HO_203004 := zo_; have HB := zb_; clear z0_ z1_ z2_ z3_ z4_ zo_ zb_; have hczz200_0 : wz.cell? ⟨gb200, 0, none⟩ = some (.int .i64 a0_0) := b1 BK200 0; have hfzz200_0 := blk_frozen BK200.out 0; have hczz200_1 : wz.cell? ⟨gb200, 1, none⟩ = some (.int .i64 a0_1) := b1 BK200 1; have hfzz200_1 := blk_frozen BK200.out 1; have hczz200_2 : wz.cell? ⟨gb200, 2, none⟩ = some (.int .i64 a0_2) := b1 BK200 2; have hfzz200_2 := blk_frozen BK200.out 2; have hczz200_3 : wz.cell? ⟨gb200, 3, none⟩ = some (.slice (some ad203) l0_3.length c0_3) := b1 BK200 3; have hfzz200_3 := blk_frozen BK200.out 3; have hczz201_0 : wz.cell? ⟨gb201, 0, none⟩ = some (.int .i64 0) := b1 BK201 0; have hfzz201_0 := blk_frozen BK201.out 0; have hczz201_1 : wz.cell? ⟨gb201, 1, none⟩ = some (.int .i64 0) := b1 BK201 1; have hfzz201_1 := blk_frozen BK201.out 1; have hczz201_2 : wz.cell? ⟨gb201, 2, none⟩ = some (.int .i64 0) := b1 BK201 2; have hfzz201_2 := blk_frozen BK201.out 2; have hczz201_3 : wz.cell? ⟨gb201, 3, none⟩ = some (.int .i64 0) := b1 BK201 3; have hfzz201_3 := blk_frozen BK201.out 3; have hczz201_4 : wz.cell? ⟨gb201, 4, none⟩ = some (.slice none 0 0) := b1 BK201 4; have hfzz201_4 := blk_frozen BK201.out 4; have hczz202_0 : wz.cell? ⟨gb202, 0, none⟩ = some (.int .i64 a0_0) := b1 BK202 0; have hfzz202_0 := blk_frozen BK202.out 0; have hczz202_1 : wz.cell? ⟨gb202, 1, none⟩ = some (.int .i64 a0_1) := b1 BK202 1; have hfzz202_1 := blk_frozen BK202.out 1; have hczz202_2 : wz.cell? ⟨gb202, 2, none⟩ = some (.int .i64 a0_2) := b1 BK202 2; have hfzz202_2 := blk_frozen BK202.out 2; have hczz202_3 : wz.cell? ⟨gb202, 3, none⟩ = some (.int .i64 1) := b1 BK202 3; have hfzz202_3 := blk_frozen BK202.out 3; have hczz202_4 : wz.cell? ⟨gb202, 4, none⟩ = some (u203004) := b1 BK202 4; have hfzz202_4 := blk_frozen BK202.out 4; have hczz204_0 : wz.cell? ⟨gb204, 0, none⟩ = some (.int .i64 ((rd_T68 l0_3 x17_1).f0)) := b1 BK204 0; have hfzz204_0 := blk_frozen BK204.out 0; have hczz204_1 : wz.cell? ⟨gb204, 1, none⟩ = some (.int .i64 ((rd_T68 l0_3 x17_1).f1)) := b1 BK204 1; have hfzz204_1 := blk_frozen BK204.out 1; have hczz204_2 : wz.cell? ⟨gb204, 2, none⟩ = some (.int .i64 ((rd_T68 l0_3 x17_1).f2)) := b1 BK204 2; have hfzz204_2 := blk_frozen BK204.out 2; have hczz204_3 : wz.cell? ⟨gb204, 3, none⟩ = some (.bool true) := b1 BK204 3; have hfzz204_3 := blk_frozen BK204.out 3; have hczz205_0 : wz.cell? ⟨gb205, 0, none⟩ = some (.int .i64 ((rd_T68 l0_3 x17_1).f0)) := b1 BK205 0; have hfzz205_0 := blk_frozen BK205.out 0; have hczz205_1 : wz.cell? ⟨gb205, 1, none⟩ = some (.int .i64 ((rd_T68 l0_3 x17_1).f1)) := b1 BK205 1; have hfzz205_1 := blk_frozen BK205.out 1; have hczz205_2 : wz.cell? ⟨gb205, 2, none⟩ = some (.int .i64 ((rd_T68 l0_3 x17_1).f2)) := b1 BK205 2; have hfzz205_2 := blk_frozen BK205.out 2
        have hczz205_3 : wz.cell? ⟨gb205, 3, none⟩ = some (.int .i64 1) := b1 BK205 3; have hfzz205_3 := blk_frozen BK205.out 3
        go_wp2_with (first | ((with_reducible refine gate_builtin (b := .append) (xs := #[.tmp 32, .tmp 34]) rfl ?_); at_builtin; refine Kd.R_append k94 (w0 := w) w.heap.size rfl (.tmp 32) (.tmp 34) 41 94 (.agg #[(.int .i64 0), (.int .i64 0), (.int .i64 0), (.int .i64 0)]) 32 rfl Try.underlying41 info94 rfl (by decide) (by omega) u203004 x203004_1 (⟨(rd_T68 l0_3 x17_1).f0, (rd_T68 l0_3 x17_1).f1, (rd_T68 l0_3 x17_1).f2, 1⟩ : S94) [.int .i64 ((rd_T68 l0_3 x17_1).f0), .int .i64 ((rd_T68 l0_3 x17_1).f1), .int .i64 ((rd_T68 l0_3 x17_1).f2), .int .i64 1] (fun k_ => k_ ≠ gb205) (fun _ => False) rfl (by first | (go_simp; done) | (go_simp; rfl)) ?aP (fun _ hk => hk.elim) ?aF ?aO ?aB ?aS ?aL ?_; (case aP => exact k94_mkM _ _ _ (⟨(rd_T68 l0_3 x17_1).f0, (rd_T68 l0_3 x17_1).f1, (rd_T68 l0_3 x17_1).f2, 1⟩ : S94)); (case aB => exact HB.out); (case aF => exact (fun k_ hk => Kd.freshB (g := gb205) (o := .cells #[.int .i64 ((rd_T68 l0_3 x17_1).f0), .int .i64 ((rd_T68 l0_3 x17_1).f1), .int .i64 ((rd_T68 l0_3 x17_1).f2), .int .i64 1] 94 (0, 0)) BK205.out k_ hk)); (case aO => exact Kd.R_mono HO_203004.out (fun _ hk => hk.2)); (case aS => exact (below_size HB.out)); (case aL => have := LMc16.out; omega); intro v207 w32 ho hb hg hat; rw [← Ny206.out] at ho; have n0_ := Aside0.mk (blk_grown (g := gb200) (o := .cells #[.int .i64 a0_0, .int .i64 a0_1, .int .i64 a0_2, .slice (some ad203) l0_3.length c0_3] 24 (0, 0)) BK200.out hg (Kd.R_ne HO_203004.out BK200.out (by decide))); have n1_ := Aside0.mk (blk_grown (g := gb201) (o := .cells #[.int .i64 0, .int .i64 0, .int .i64 0, .int .i64 0, .slice none 0 0] 43 (0, 0)) BK201.out hg (Kd.R_ne HO_203004.out BK201.out (by decide))); have n2_ := Aside0.mk (blk_grown (g := gb202) (o := .cells #[.int .i64 a0_0, .int .i64 a0_1, .int .i64 a0_2, .int .i64 1, u203004] 43 (0, 0)) BK202.out hg (Kd.R_ne HO_203004.out BK202.out (by decide))); have n3_ := Aside0.mk (blk_grown (g := gb204) (o := .cells #[.int .i64 ((rd_T68 l0_3 x17_1).f0), .int .i64 ((rd_T68 l0_3 x17_1).f1), .int .i64 ((rd_T68 l0_3 x17_1).f2), .bool true] 68 (0, 0)) BK204.out hg (Kd.R_ne HO_203004.out BK204.out (by decide))); have n4_ := Aside0.mk (blk_grown (g := gb205) (o := .cells #[.int .i64 ((rd_T68 l0_3 x17_1).f0), .int .i64 ((rd_T68 l0_3 x17_1).f1), .int .i64 ((rd_T68 l0_3 x17_1).f2), .int .i64 1] 94 (0, 0)) BK205.out hg (Kd.R_away HO_203004.out (fun _ hk => hk.2))); have n5_ := Aside0.mk (hb); have n6_ := Aside0.mk (ho); clear BK200; clear BK201; clear BK202; clear BK204; clear BK205; clear HB; clear HO_203004; have BK200 := n0_; have BK201 := n1_; have BK202 := n2_; have BK204 := n3_; have BK205 := n4_; have HB := n5_; have HO208 := n6_; clear n0_ n1_ n2_ n3_ n4_ n5_ n6_; clear ho hb hg hat; obtain ⟨Ao33, co33, eo33⟩ := Kd.R_slice HO208.out; subst eo33; have hcz34_0 : w32.cell? ⟨gb202, 0, none⟩ = some (.int .i64 a0_0) := b1 BK202 0; have hcz34_1 : w32.cell? ⟨gb202, 1, none⟩ = some (.int .i64 a0_1) := b1 BK202 1; have hcz34_2 : w32.cell? ⟨gb202, 2, none⟩ = some (.int .i64 a0_2) := b1 BK202 2; have hcz34_3 : w32.cell? ⟨gb202, 3, none⟩ = some (.int .i64 1) := b1 BK202 3; have hcz34_4 : w32.cell? ⟨gb202, 4, none⟩ = some (u203004) := b1 BK202 4; have hfz34_0 := blk_frozen BK202.out 0; have hfz34_1 := blk_frozen BK202.out 1; have hfz34_2 := blk_frozen BK202.out 2; have hfz34_3 := blk_frozen BK202.out 3; have hfz34_4 := blk_frozen BK202.out 4))
        go_roundg k1
        case measure => have := HK1.out; omega
        case rel => exact ⟨(wrap64 (x17_1 + 1)), (y206), (.slice Ao33 y206.length co33), (by first | rfl | (simp; done) | (simp [*]; done)), H', ⟨by have := HK1.out; omega⟩, ⟨by (with_reducible repeat (first | apply Kd.R_alloc | apply Kd.R_drewN | apply Kd.R_drew)); exact Kd.R_mono (Kd.R_far (p := ⟨gb202, 4, none⟩) (Kd.R_types HO208.out BK202.out (by decide)) (fun _ hk => hk.2) (.slice Ao33 y206.length co33)) (fun _ hk => trivial)⟩, ⟨zB BK200.out⟩, ⟨zB BK201.out⟩, ⟨by (with_reducible repeat (first | refine blk_drewN ?_ _ | refine blk_drew ?_ | refine blk_alloc ?_ _)); refine blk_put (cs := #[.int .i64 a0_0, .int .i64 a0_1, .int .i64 a0_2, .int .i64 1, u203004]) ?_ 4 _ rfl; (with_reducible repeat (first | refine blk_drewN ?_ _ | refine blk_drew ?_ | refine blk_alloc ?_ _)); exact BK202.out⟩, ⟨zS HB.out⟩⟩
       ·rw [if_neg c16] at H; exact absurd H (by simp)
      ·replace c15 := Bool.eq_false_iff.mpr c15; subst c15
       have H1 : (if x203004_1.length < 4398046511104 then (impl_genOf.l0 k1 l0_3 (l0_3.length : Int) (wrap64 (x17_1 + 1)) a0_0 a0_1 a0_2 1 (x203004_1 ++ [(⟨(rd_T68 l0_3 x17_1).f0, (rd_T68 l0_3 x17_1).f1, (rd_T68 l0_3 x17_1).f2, 0⟩ : S94)])) else (none)) = some (r1, r2, r3, r4, r5) := by rw [if_neg (show ¬ (false = true) by decide)] at H; exact H
       clear H; have H := H1; clear H1
       by_cases c35 : x203004_1.length < 4398046511104
       ·rw [if_pos c35] at H; have LMc35 := Aside0.mk c35; clear c35; obtain ⟨y209, hy209⟩ : ∃ y_ : List (S94), y_ = (x203004_1 ++ [(⟨(rd_T68 l0_3 x17_1).f0, (rd_T68 l0_3 x17_1).f1, (rd_T68 l0_3 x17_1).f2, 0⟩ : S94)]) := ⟨_, rfl⟩
        replace H : (impl_genOf.l0 k1 l0_3 (l0_3.length : Int) (wrap64 (x17_1 + 1)) a0_0 a0_1 a0_2 1 y209) = some (r1, r2, r3, r4, r5) := by first | (rw [hy209]; with_reducible exact H) | (have H2_ := (Option.bind_some _ _).symm.trans H; rw [hy209]; with_reducible exact H2_) | (have H2_ := (Option.bind_some _ _).symm.trans H; with_reducible exact H2_) | with_reducible exact H | (rw [hy209]; exact H) | exact H
        have Ny209 := Aside0.mk hy209; clear hy209; have H' := Aside0.mk H; clear H; have p203 : 0 ≤ (x17_1 : Int) := of_decide_eq_true (by first | (with_reducible assumption) | assumption); have q203 : x17_1 < (l0_3.length : Int) := of_decide_eq_true (by first | (with_reducible assumption) | assumption); obtain ⟨ad203, e203, hx203_0, hx203_1, hx203_2, hx203_3⟩ := at_T68 HR0_3.out x17_1 p203 q203
        (try rw [← Nbq14.out] at hx203_3)
        cases e203
        replace hx203_0 := (HB.out.cell (World.block_lt_of_cell? w _ hx203_0)).trans hx203_0; replace hx203_1 := (HB.out.cell (World.block_lt_of_cell? w _ hx203_1)).trans hx203_1; replace hx203_2 := (HB.out.cell (World.block_lt_of_cell? w _ hx203_2)).trans hx203_2; replace hx203_3 := (HB.out.cell (World.block_lt_of_cell? w _ hx203_3)).trans hx203_3; replace p203 := eq_true p203; replace q203 := eq_true q203
        go_upto_region 8 with (first | ((with_reducible refine gate_dst (N := 5) rfl ?_); refine box_event ?hg (N := 5) ?hd (cs := #[.int .i64 0, .int .i64 0, .int .i64 0, .bool false]) (t := 68) ?hr ?_; (case hd => rfl); (case hg => rfl); (case hr => first | (go_simp; done) | (go_simp; rfl)); intro gb204 hg w36 hbox hb; replace HO_203004 := xR HO_203004 hb; have BK204 := Aside0.mk (hbox); have GW204 := xG HB hg; have GE204 := xG HB hg; replace HB := xS HB hb; have NB200_204 := xN BK200 hg; have NB204_200 := xM BK200 hg; replace BK200 := xB BK200 hb; have NB201_204 := xN BK201 hg; have NB204_201 := xM BK201 hg; replace BK201 := xB BK201 hb; have NB202_204 := xN BK202 hg; have NB204_202 := xM BK202 hg; replace BK202 := xB BK202 hb; clear hb hbox hg; have hnb37 := NB204_200.out; have hnc37 := NB200_204.out; have hnb38 := NB204_201.out; have hnc38 := NB201_204.out; have hnb39 := NB204_202.out; have hnc39 := NB202_204.out; have hcz40_0 : w36.cell? ⟨gb204, 0, none⟩ = some (.int .i64 0) := b1 BK204 0; have hcz40_1 : w36.cell? ⟨gb204, 1, none⟩ = some (.int .i64 0) := b1 BK204 1; have hcz40_2 : w36.cell? ⟨gb204, 2, none⟩ = some (.int .i64 0) := b1 BK204 2; have hcz40_3 : w36.cell? ⟨gb204, 3, none⟩ = some (.bool false) := b1 BK204 3; have hfz40_0 := blk_frozen BK204.out 0; have hfz40_1 := blk_frozen BK204.out 1; have hfz40_2 := blk_frozen BK204.out 2; have hfz40_3 := blk_frozen BK204.out 3) | ((with_reducible refine gate_dst (N := 6) rfl ?_); refine box_event ?hg (N := 6) ?hd (cs := #[.int .i64 0, .int .i64 0, .int .i64 0, .int .i64 0]) (t := 94) ?hr ?_; (case hd => rfl); (case hg => rfl); (case hr => first | (go_simp; done) | (go_simp; rfl)); intro gb205 hg w41 hbox hb; replace HO_203004 := Aside0.mk (Kd.R_below (Kd.R_elderB (zR (xF4 HO_203004 BK204)) gb205 (Nat.le_of_eq hg.symm)) hb); have BK205 := Aside0.mk (hbox); have GW205 := xG HB hg; have GE205 := xG HB hg; replace HB := xS HB hb; have NB200_205 := xN BK200 hg; have NB205_200 := xM BK200 hg; replace BK200 := xB BK200 hb; have NB201_205 := xN BK201 hg; have NB205_201 := xM BK201 hg; replace BK201 := xB BK201 hb; have NB202_205 := xN BK202 hg; have NB205_202 := xM BK202 hg; replace BK202 := xB BK202 hb; have NB204_205 := Aside0.mk ((by rw [hg]; exact Nat.ne_of_lt (blk_lt (g := gb204) (o := .cells #[.int .i64 ((rd_T68 l0_3 x17_1).f0), .int .i64 ((rd_T68 l0_3 x17_1).f1), .int .i64 ((rd_T68 l0_3 x17_1).f2), .bool false] 68 (0, 0)) (xP4 BK204.out)) : gb204 ≠ gb205)); have NB205_204 := Aside0.mk ((by rw [hg]; exact Nat.ne_of_gt (blk_lt (g := gb204) (o := .cells #[.int .i64 ((rd_T68 l0_3 x17_1).f0), .int .i64 ((rd_T68 l0_3 x17_1).f1), .int .i64 ((rd_T68 l0_3 x17_1).f2), .bool false] 68 (0, 0)) (xP4 BK204.out)) : gb205 ≠ gb204)); replace BK204 := Aside0.mk (blk_below (g := gb204) (o := .cells #[.int .i64 ((rd_T68 l0_3 x17_1).f0), .int .i64 ((rd_T68 l0_3 x17_1).f1), .int .i64 ((rd_T68 l0_3 x17_1).f2), .bool false] 68 (0, 0)) (xP4 BK204.out) hb); clear hb hbox hg; have hnb42 := NB205_200.out; have hnc42 := NB200_205.out; have hnb43 := NB205_201.out; have hnc43 := NB201_205.out; have hnb44 := NB205_202.out; have hnc44 := NB202_205.out; have hnb45 := NB205_204.out; have hnc45 := NB204_205.out; have hcz46_0 : w41.cell? ⟨gb205, 0, none⟩ = some (.int .i64 0) := b1 BK205 0; have hcz46_1 : w41.cell? ⟨gb205, 1, none⟩ = some (.int .i64 0) := b1 BK205 1; have hcz46_2 : w41.cell? ⟨gb205, 2, none⟩ = some (.int .i64 0) := b1 BK205 2; have hcz46_3 : w41.cell? ⟨gb205, 3, none⟩ = some (.int .i64 0) := b1 BK205 3; have hfz46_0 := blk_frozen BK205.out 0; have hfz46_1 := blk_frozen BK205.out 1; have hfz46_2 := blk_frozen BK205.out 2; have hfz46_3 := blk_frozen BK205.out 3; have hcz47_0 : w41.cell? ⟨gb204, 0, none⟩ = some (.int .i64 ((rd_T68 l0_3 x17_1).f0)) := b1 BK204 0; have hcz47_1 : w41.cell? ⟨gb204, 1, none⟩ = some (.int .i64 ((rd_T68 l0_3 x17_1).f1)) := b1 BK204 1; have hcz47_2 : w41.cell? ⟨gb204, 2, none⟩ = some (.int .i64 ((rd_T68 l0_3 x17_1).f2)) := b1 BK204 2; have hcz47_3 : w41.cell? ⟨gb204, 3, none⟩ = some (.bool false) := b1 BK204 3; have hfz47_0 := blk_frozen BK204.out 0; have hfz47_1 := blk_frozen BK204.out 1; have hfz47_2 := blk_frozen BK204.out 2; have hfz47_3 := blk_frozen BK204.out 3; have hnb48 := NB202_200.out; have hnc48 := NB200_202.out; have hnb49 := NB202_201.out; have hnc49 := NB201_202.out; have hcz50_0 : w41.cell? ⟨gb202, 0, none⟩ = some (.int .i64 a0_0) := b1 BK202 0; have hcz50_1 : w41.cell? ⟨gb202, 1, none⟩ = some (.int .i64 a0_1) := b1 BK202 1; have hcz50_2 : w41.cell? ⟨gb202, 2, none⟩ = some (.int .i64 a0_2) := b1 BK202 2; have hcz50_3 : w41.cell? ⟨gb202, 3, none⟩ = some (.int .i64 1) := b1 BK202 3; have hcz50_4 : w41.cell? ⟨gb202, 4, none⟩ = some (u203004) := b1 BK202 4; have hfz50_0 := blk_frozen BK202.out 0; have hfz50_1 := blk_frozen BK202.out 1; have hfz50_2 := blk_frozen BK202.out 2; have hfz50_3 := blk_frozen BK202.out 3; have hfz50_4 := blk_frozen BK202.out 4))
        have z0_ : Aside0 (((((w41.setCell ⟨gb205, 0, none⟩ (.int .i64 ((rd_T68 l0_3 x17_1).f0))).setCell ⟨gb205, 1, none⟩ (.int .i64 ((rd_T68 l0_3 x17_1).f1))).setCell ⟨gb205, 2, none⟩ (.int .i64 ((rd_T68 l0_3 x17_1).f2))).setCell ⟨gb205, 3, none⟩ (.int .i64 0)).heap[gb200]? = some (.cells #[.int .i64 a0_0, .int .i64 a0_1, .int .i64 a0_2, .slice (some ad203) l0_3.length c0_3] 24 (0, 0))) := ⟨(zB BK200.out)⟩; have z1_ : Aside0 (((((w41.setCell ⟨gb205, 0, none⟩ (.int .i64 ((rd_T68 l0_3 x17_1).f0))).setCell ⟨gb205, 1, none⟩ (.int .i64 ((rd_T68 l0_3 x17_1).f1))).setCell ⟨gb205, 2, none⟩ (.int .i64 ((rd_T68 l0_3 x17_1).f2))).setCell ⟨gb205, 3, none⟩ (.int .i64 0)).heap[gb201]? = some (.cells #[.int .i64 0, .int .i64 0, .int .i64 0, .int .i64 0, .slice none 0 0] 43 (0, 0))) := ⟨(zB BK201.out)⟩; have z2_ : Aside0 (((((w41.setCell ⟨gb205, 0, none⟩ (.int .i64 ((rd_T68 l0_3 x17_1).f0))).setCell ⟨gb205, 1, none⟩ (.int .i64 ((rd_T68 l0_3 x17_1).f1))).setCell ⟨gb205, 2, none⟩ (.int .i64 ((rd_T68 l0_3 x17_1).f2))).setCell ⟨gb205, 3, none⟩ (.int .i64 0)).heap[gb202]? = some (.cells #[.int .i64 a0_0, .int .i64 a0_1, .int .i64 a0_2, .int .i64 1, u203004] 43 (0, 0))) := ⟨(zB BK202.out)⟩; have z3_ : Aside0 (((((w41.setCell ⟨gb205, 0, none⟩ (.int .i64 ((rd_T68 l0_3 x17_1).f0))).setCell ⟨gb205, 1, none⟩ (.int .i64 ((rd_T68 l0_3 x17_1).f1))).setCell ⟨gb205, 2, none⟩ (.int .i64 ((rd_T68 l0_3 x17_1).f2))).setCell ⟨gb205, 3, none⟩ (.int .i64 0)).heap[gb204]? = some (.cells #[.int .i64 ((rd_T68 l0_3 x17_1).f0), .int .i64 ((rd_T68 l0_3 x17_1).f1), .int .i64 ((rd_T68 l0_3 x17_1).f2), .bool false] 68 (0, 0))) := ⟨(zB BK204.out)⟩; have z4_ : Aside0 (((((w41.setCell ⟨gb205, 0, none⟩ (.int .i64 ((rd_T68 l0_3 x17_1).f0))).setCell ⟨gb205, 1, none⟩ (.int .i64 ((rd_T68 l0_3 x17_1).f1))).setCell ⟨gb205, 2, none⟩ (.int .i64 ((rd_T68 l0_3 x17_1).f2))).setCell ⟨gb205, 3, none⟩ (.int .i64 0)).heap[gb205]? = some (.cells #[.int .i64 ((rd_T68 l0_3 x17_1).f0), .int .i64 ((rd_T68 l0_3 x17_1).f1), .int .i64 ((rd_T68 l0_3 x17_1).f2), .int .i64 0] 94 (0, 0))) := ⟨(xP4 BK205.out)⟩; have zo_ := Aside0.mk (Kd.R_mono (Kd.R_far (p := ⟨gb205, 3, none⟩) (Kd.R_far (p := ⟨gb205, 2, none⟩) (Kd.R_far (p := ⟨gb205, 1, none⟩) (Kd.R_far (p := ⟨gb205, 0, none⟩) (Kd.R_mono HO_203004.out (fun k_ hk => (⟨hk, hk.2⟩ : _ ∧ k_ ≠ gb205))) (fun _ hk => hk.2) (.int .i64 ((rd_T68 l0_3 x17_1).f0))) (fun _ hk => hk.2) (.int .i64 ((rd_T68 l0_3 x17_1).f1))) (fun _ hk => hk.2) (.int .i64 ((rd_T68 l0_3 x17_1).f2))) (fun _ hk => hk.2) (.int .i64 0)) (fun _ hk => hk.1)); have zb_ : Aside0 (Below w.heap.size w ((((w41.setCell ⟨gb205, 0, none⟩ (.int .i64 ((rd_T68 l0_3 x17_1).f0))).setCell ⟨gb205, 1, none⟩ (.int .i64 ((rd_T68 l0_3 x17_1).f1))).setCell ⟨gb205, 2, none⟩ (.int .i64 ((rd_T68 l0_3 x17_1).f2))).setCell ⟨gb205, 3, none⟩ (.int .i64 0))) := ⟨(zS HB.out)⟩
        generalize ((((w41.setCell ⟨gb205, 0, none⟩ (.int .i64 ((rd_T68 l0_3 x17_1).f0))).setCell ⟨gb205, 1, none⟩ (.int .i64 ((rd_T68 l0_3 x17_1).f1))).setCell ⟨gb205, 2, none⟩ (.int .i64 ((rd_T68 l0_3 x17_1).f2))).setCell ⟨gb205, 3, none⟩ (.int .i64 0)) = wz at z0_ z1_ z2_ z3_ z4_ zo_ zb_ ⊢; clear BK200 BK201 BK202 BK204 BK205 HO_203004 HB; have BK200 := z0_; have BK201 := z1_; have BK202 := z2_; have BK204 := z3_; have BK205 := z4_; have HO_203004 := zo_; have HB := zb_; clear z0_ z1_ z2_ z3_ z4_ zo_ zb_; have hczz200_0 : wz.cell? ⟨gb200, 0, none⟩ = some (.int .i64 a0_0) := b1 BK200 0; have hfzz200_0 := blk_frozen BK200.out 0; have hczz200_1 : wz.cell? ⟨gb200, 1, none⟩ = some (.int .i64 a0_1) := b1 BK200 1; have hfzz200_1 := blk_frozen BK200.out 1; have hczz200_2 : wz.cell? ⟨gb200, 2, none⟩ = some (.int .i64 a0_2) := b1 BK200 2; have hfzz200_2 := blk_frozen BK200.out 2; have hczz200_3 : wz.cell? ⟨gb200, 3, none⟩ = some (.slice (some ad203) l0_3.length c0_3) := b1 BK200 3; have hfzz200_3 := blk_frozen BK200.out 3; have hczz201_0 : wz.cell? ⟨gb201, 0, none⟩ = some (.int .i64 0) := b1 BK201 0; have hfzz201_0 := blk_frozen BK201.out 0; have hczz201_1 : wz.cell? ⟨gb201, 1, none⟩ = some (.int .i64 0) := b1 BK201 1; have hfzz201_1 := blk_frozen BK201.out 1; have hczz201_2 : wz.cell? ⟨gb201, 2, none⟩ = some (.int .i64 0) := b1 BK201 2; have hfzz201_2 := blk_frozen BK201.out 2; have hczz201_3 : wz.cell? ⟨gb201, 3, none⟩ = some (.int .i64 0) := b1 BK201 3; have hfzz201_3 := blk_frozen BK201.out 3; have hczz201_4 : wz.cell? ⟨gb201, 4, none⟩ = some (.slice none 0 0) := b1 BK201 4; have hfzz201_4 := blk_frozen BK201.out 4; have hczz202_0 : wz.cell? ⟨gb202, 0, none⟩ = some (.int .i64 a0_0) := b1 BK202 0; have hfzz202_0 := blk_frozen BK202.out 0; have hczz202_1 : wz.cell? ⟨gb202, 1, none⟩ = some (.int .i64 a0_1) := b1 BK202 1; have hfzz202_1 := blk_frozen BK202.out 1; have hczz202_2 : wz.cell? ⟨gb202, 2, none⟩ = some (.int .i64 a0_2) := b1 BK202 2; have hfzz202_2 := blk_frozen BK202.out 2; have hczz202_3 : wz.cell? ⟨gb202, 3, none⟩ = some (.int .i64 1) := b1 BK202 3; have hfzz202_3 := blk_frozen BK202.out 3; have hczz202_4 : wz.cell? ⟨gb202, 4, none⟩ = some (u203004) := b1 BK202 4; have hfzz202_4 := blk_frozen BK202.out 4; have hczz204_0 : wz.cell? ⟨gb204, 0, none⟩ = some (.int .i64 ((rd_T68 l0_3 x17_1).f0)) := b1 BK204 0; have hfzz204_0 := blk_frozen BK204.out 0; have hczz204_1 : wz.cell? ⟨gb204, 1, none⟩ = some (.int .i64 ((rd_T68 l0_3 x17_1).f1)) := b1 BK204 1; have hfzz204_1 := blk_frozen BK204.out 1; have hczz204_2 : wz.cell? ⟨gb204, 2, none⟩ = some (.int .i64 ((rd_T68 l0_3 x17_1).f2)) := b1 BK204 2; have hfzz204_2 := blk_frozen BK204.out 2; have hczz204_3 : wz.cell? ⟨gb204, 3, none⟩ = some (.bool false) := b1 BK204 3; have hfzz204_3 := blk_frozen BK204.out 3; have hczz205_0 : wz.cell? ⟨gb205, 0, none⟩ = some (.int .i64 ((rd_T68 l0_3 x17_1).f0)) := b1 BK205 0; have hfzz205_0 := blk_frozen BK205.out 0
        have hczz205_1 : wz.cell? ⟨gb205, 1, none⟩ = some (.int .i64 ((rd_T68 l0_3 x17_1).f1)) := b1 BK205 1; have hfzz205_1 := blk_frozen BK205.out 1; have hczz205_2 : wz.cell? ⟨gb205, 2, none⟩ = some (.int .i64 ((rd_T68 l0_3 x17_1).f2)) := b1 BK205 2; have hfzz205_2 := blk_frozen BK205.out 2; have hczz205_3 : wz.cell? ⟨gb205, 3, none⟩ = some (.int .i64 0) := b1 BK205 3; have hfzz205_3 := blk_frozen BK205.out 3
        go_wp2_with (first | ((with_reducible refine gate_builtin (b := .append) (xs := #[.tmp 32, .tmp 34]) rfl ?_); at_builtin; refine Kd.R_append k94 (w0 := w) w.heap.size rfl (.tmp 32) (.tmp 34) 41 94 (.agg #[(.int .i64 0), (.int .i64 0), (.int .i64 0), (.int .i64 0)]) 32 rfl Try.underlying41 info94 rfl (by decide) (by omega) u203004 x203004_1 (⟨(rd_T68 l0_3 x17_1).f0, (rd_T68 l0_3 x17_1).f1, (rd_T68 l0_3 x17_1).f2, 0⟩ : S94) [.int .i64 ((rd_T68 l0_3 x17_1).f0), .int .i64 ((rd_T68 l0_3 x17_1).f1), .int .i64 ((rd_T68 l0_3 x17_1).f2), .int .i64 0] (fun k_ => k_ ≠ gb205) (fun _ => False) rfl (by first | (go_simp; done) | (go_simp; rfl)) ?aP (fun _ hk => hk.elim) ?aF ?aO ?aB ?aS ?aL ?_; (case aP => exact k94_mkM _ _ _ (⟨(rd_T68 l0_3 x17_1).f0, (rd_T68 l0_3 x17_1).f1, (rd_T68 l0_3 x17_1).f2, 0⟩ : S94)); (case aB => exact HB.out); (case aF => exact (fun k_ hk => Kd.freshB (g := gb205) (o := .cells #[.int .i64 ((rd_T68 l0_3 x17_1).f0), .int .i64 ((rd_T68 l0_3 x17_1).f1), .int .i64 ((rd_T68 l0_3 x17_1).f2), .int .i64 0] 94 (0, 0)) BK205.out k_ hk)); (case aO => exact Kd.R_mono HO_203004.out (fun _ hk => hk.2)); (case aS => exact (below_size HB.out)); (case aL => have := LMc35.out; omega); intro v210 w51 ho hb hg hat; rw [← Ny209.out] at ho; have n0_ := Aside0.mk (blk_grown (g := gb200) (o := .cells #[.int .i64 a0_0, .int .i64 a0_1, .int .i64 a0_2, .slice (some ad203) l0_3.length c0_3] 24 (0, 0)) BK200.out hg (Kd.R_ne HO_203004.out BK200.out (by decide))); have n1_ := Aside0.mk (blk_grown (g := gb201) (o := .cells #[.int .i64 0, .int .i64 0, .int .i64 0, .int .i64 0, .slice none 0 0] 43 (0, 0)) BK201.out hg (Kd.R_ne HO_203004.out BK201.out (by decide))); have n2_ := Aside0.mk (blk_grown (g := gb202) (o := .cells #[.int .i64 a0_0, .int .i64 a0_1, .int .i64 a0_2, .int .i64 1, u203004] 43 (0, 0)) BK202.out hg (Kd.R_ne HO_203004.out BK202.out (by decide))); have n3_ := Aside0.mk (blk_grown (g := gb204) (o := .cells #[.int .i64 ((rd_T68 l0_3 x17_1).f0), .int .i64 ((rd_T68 l0_3 x17_1).f1), .int .i64 ((rd_T68 l0_3 x17_1).f2), .bool false] 68 (0, 0)) BK204.out hg (Kd.R_ne HO_203004.out BK204.out (by decide))); have n4_ := Aside0.mk (blk_grown (g := gb205) (o := .cells #[.int .i64 ((rd_T68 l0_3 x17_1).f0), .int .i64 ((rd_T68 l0_3 x17_1).f1), .int .i64 ((rd_T68 l0_3 x17_1).f2), .int .i64 0] 94 (0, 0)) BK205.out hg (Kd.R_away HO_203004.out (fun _ hk => hk.2))); have n5_ := Aside0.mk (hb); have n6_ := Aside0.mk (ho); clear BK200; clear BK201; clear BK202; clear BK204; clear BK205; clear HB; clear HO_203004; have BK200 := n0_; have BK201 := n1_; have BK202 := n2_; have BK204 := n3_; have BK205 := n4_; have HB := n5_; have HO211 := n6_; clear n0_ n1_ n2_ n3_ n4_ n5_ n6_; clear ho hb hg hat; obtain ⟨Ao52, co52, eo52⟩ := Kd.R_slice HO211.out; subst eo52; have hcz53_0 : w51.cell? ⟨gb202, 0, none⟩ = some (.int .i64 a0_0) := b1 BK202 0; have hcz53_1 : w51.cell? ⟨gb202, 1, none⟩ = some (.int .i64 a0_1) := b1 BK202 1; have hcz53_2 : w51.cell? ⟨gb202, 2, none⟩ = some (.int .i64 a0_2) := b1 BK202 2; have hcz53_3 : w51.cell? ⟨gb202, 3, none⟩ = some (.int .i64 1) := b1 BK202 3; have hcz53_4 : w51.cell? ⟨gb202, 4, none⟩ = some (u203004) := b1 BK202 4; have hfz53_0 := blk_frozen BK202.out 0; have hfz53_1 := blk_frozen BK202.out 1; have hfz53_2 := blk_frozen BK202.out 2; have hfz53_3 := blk_frozen BK202.out 3; have hfz53_4 := blk_frozen BK202.out 4))
        go_roundg k1
        case measure => have := HK1.out; omega
        case rel => exact ⟨(wrap64 (x17_1 + 1)), (y209), (.slice Ao52 y209.length co52), (by first | rfl | (simp; done) | (simp [*]; done)), H', ⟨by have := HK1.out; omega⟩, ⟨by (with_reducible repeat (first | apply Kd.R_alloc | apply Kd.R_drewN | apply Kd.R_drew)); exact Kd.R_mono (Kd.R_far (p := ⟨gb202, 4, none⟩) (Kd.R_types HO211.out BK202.out (by decide)) (fun _ hk => hk.2) (.slice Ao52 y209.length co52)) (fun _ hk => trivial)⟩, ⟨zB BK200.out⟩, ⟨zB BK201.out⟩, ⟨by (with_reducible repeat (first | refine blk_drewN ?_ _ | refine blk_drew ?_ | refine blk_alloc ?_ _)); refine blk_put (cs := #[.int .i64 a0_0, .int .i64 a0_1, .int .i64 a0_2, .int .i64 1, u203004]) ?_ 4 _ rfl; (with_reducible repeat (first | refine blk_drewN ?_ _ | refine blk_drew ?_ | refine blk_alloc ?_ _)); exact BK202.out⟩, ⟨zS HB.out⟩⟩
       ·rw [if_neg c35] at H; exact absurd H (by simp)
     ·rw [if_neg c13] at H; exact absurd H (by simp)
    ·rw [if_neg c12] at H; exact absurd H (by simp)
   ·rw [if_neg c11] at H; have c11b0 : decide (x17_1 < (l0_3.length : Int)) = false := decide_eq_false c11; clear c11; simp only [Option.some.injEq, Prod.mk.injEq] at H; obtain ⟨rfl, rfl, rfl, rfl, rfl⟩ := H; have hnb54 := NB202_200.out; have hnc54 := NB200_202.out; have hnb55 := NB202_201.out; have hnc55 := NB201_202.out; have hcz56_0 : wr.cell? ⟨gb202, 0, none⟩ = some (.int .i64 a0_0) := b1 BK202 0; have hcz56_1 : wr.cell? ⟨gb202, 1, none⟩ = some (.int .i64 a0_1) := b1 BK202 1; have hcz56_2 : wr.cell? ⟨gb202, 2, none⟩ = some (.int .i64 a0_2) := b1 BK202 2; have hcz56_3 : wr.cell? ⟨gb202, 3, none⟩ = some (.int .i64 1) := b1 BK202 3; have hcz56_4 : wr.cell? ⟨gb202, 4, none⟩ = some (u203004) := b1 BK202 4; have hfz56_0 := blk_frozen BK202.out 0; have hfz56_1 := blk_frozen BK202.out 1; have hfz56_2 := blk_frozen BK202.out 2; have hfz56_3 := blk_frozen BK202.out 3; have hfz56_4 := blk_frozen BK202.out 4; have hnb57 := NB201_200.out; have hnc57 := NB200_201.out; have hcz58_0 : wr.cell? ⟨gb201, 0, none⟩ = some (.int .i64 0) := b1 BK201 0; have hcz58_1 : wr.cell? ⟨gb201, 1, none⟩ = some (.int .i64 0) := b1 BK201 1; have hcz58_2 : wr.cell? ⟨gb201, 2, none⟩ = some (.int .i64 0) := b1 BK201 2; have hcz58_3 : wr.cell? ⟨gb201, 3, none⟩ = some (.int .i64 0) := b1 BK201 3; have hcz58_4 : wr.cell? ⟨gb201, 4, none⟩ = some (.slice none 0 0) := b1 BK201 4; have hfz58_0 := blk_frozen BK201.out 0; have hfz58_1 := blk_frozen BK201.out 1; have hfz58_2 := blk_frozen BK201.out 2; have hfz58_3 := blk_frozen BK201.out 3; have hfz58_4 := blk_frozen BK201.out 4; obtain ⟨Ao59, co59, eo59⟩ := Kd.R_slice HO_203004.out; subst eo59
    go_wp2
    refine bodyPost_ret (results_cell_row rfl _ _ gb201 43 #[.int .i64 a0_0, .int .i64 a0_1, .int .i64 a0_2, .int .i64 1, .slice Ao59 x203004_1.length co59] (0, 0) _ rfl (xP5 BK201.out) Try.underlying43 rfl (by kernel_rfl)) rfl ?_; exact ⟨_, by first | rfl | (simp [errW_none, errW_some] <;> rfl) | (simp [*, errW_none, errW_some] <;> rfl), by (with_reducible repeat (first | apply Kd.R_alloc | apply Kd.R_drewN | apply Kd.R_drew)); exact Kd.R_mono (Kd.R_far (p := ⟨gb201, 4, none⟩) (Kd.R_far (p := ⟨gb201, 3, none⟩) (Kd.R_far (p := ⟨gb201, 2, none⟩) (Kd.R_far (p := ⟨gb201, 1, none⟩) (Kd.R_far (p := ⟨gb201, 0, none⟩) (Kd.R_types HO_203004.out BK201.out (by decide)) (fun _ hk => hk.2) (.int .i64 a0_0)) (fun _ hk => hk.2) (.int .i64 a0_1)) (fun _ hk => hk.2) (.int .i64 a0_2)) (fun _ hk => hk.2) (.int .i64 1)) (fun _ hk => hk.2) (.slice Ao59 x203004_1.length co59)) (fun _ hk => trivial), by repeat (first | (with_reducible first | exact HB.out | apply below_alloc | apply pw_below_drewN | apply below_drew1 | refine below_set ?_ GE200.out | refine below_set ?_ GE201.out | refine below_set ?_ GE202.out) | exact HB.out)⟩


/-! ### impl_GenOf: function 37 -/
def impl_GenOf.f (k : Nat) (a0_0 : Int) (a0_1 : Int) (a0_2 : Int) (l0_3 : List (S68)) : Option (Int × Int × Int × Int × (List (S94))) := (impl_AutoOk.f k a0_0 a0_1 a0_2 l0_3).bind fun t214 => (if t214 = true then ((impl_genOf.f k a0_0 a0_1 a0_2 l0_3).bind fun bt215 => (some (bt215.1, bt215.2.1, bt215.2.2.1, bt215.2.2.2.1, bt215.2.2.2.2))) else (some (0, 0, 0, 0, ([] : List (S94)))))
theorem impl_GenOf.mono : ∀ a0 a1 a2 a3 k, LeO (impl_GenOf.f k a0 a1 a2 a3) (impl_GenOf.f (k + 1) a0 a1 a2 a3) := by
 intro a0 a1 a2 a3 k
 unfold impl_GenOf.f
 repeat' first
   | (with_reducible exact impl_AutoOk.mono _ _ _ _ _)
   | (with_reducible exact impl_genOf.mono _ _ _ _ _)
   | (with_reducible exact LeO.refl _)
   | (with_reducible exact LeO.none _)
   | (with_reducible refine LeO.ite ?_ ?_)
   | (with_reducible refine LeO.bind ?_ (fun _ => ?_))
   | exact impl_AutoOk.mono _ _ _ _ _
   | exact impl_genOf.mono _ _ _ _ _
   | exact LeO.none _
   | refine LeO.ite ?_ ?_
   | refine LeO.bind ?_ (fun _ => ?_)
open Go.Proofs.Ytlallflpicgcmaa.Short2 in
set_option maxHeartbeats 8000000 in
set_option maxRecDepth 100000 in
theorem impl_GenOf.calls (k : Nat) (a0_0 : Int) (a0_1 : Int) (a0_2 : Int) (A0_3 : Option Addr) (c0_3 : Nat) (l0_3 : List (S68)) (r1 : Int) (r2 : Int) (r3 : Int) (r4 : Int) (r5 : List (S94)) (w : World) (hr0_3 : Kd.C k68 w A0_3 l0_3.length l0_3) (hc0_3 : l0_3.length ≤ c0_3) (h : impl_GenOf.f k a0_0 a0_1 a0_2 l0_3 = some (r1, r2, r3, r4, r5)) :
  Calls Try.prog 37 #[.agg #[.int .i64 a0_0, .int .i64 a0_1, .int .i64 a0_2, .slice A0_3 l0_3.length c0_3]] w fun e w' => ∃ v4_ : Value, e = .returned (.agg #[.int .i64 r1, .int .i64 r2, .int .i64 r3, .int .i64 r4, v4_]) ∧ Kd.R k94 94 w' w.heap.size (fun _ => True) v4_ r5 ∧ Below w.heap.size w w' := by
 have hu24 := Try.underlying24; have hu43 := Try.underlying43; have HR0_3 := Aside0.mk hr0_3; have HC0_3 := Aside0.mk hc0_3; clear hr0_3 hc0_3; have HB := Aside0.mk (Below.refl w.heap.size w); have H : ((impl_AutoOk.f k a0_0 a0_1 a0_2 l0_3).bind fun t214 => (if t214 = true then ((impl_genOf.f k a0_0 a0_1 a0_2 l0_3).bind fun bt215 => (some (bt215.1, bt215.2.1, bt215.2.2.1, bt215.2.2.2.1, bt215.2.2.2.2))) else (some (0, 0, 0, 0, ([] : List (S94)))))) = some (r1, r2, r3, r4, r5) := h; clear h; replace H := Option.bind_eq_some_iff.mp H; obtain ⟨t214, A20, H⟩ := H; replace H : (if t214 = true then ((impl_genOf.f k a0_0 a0_1 a0_2 l0_3).bind fun bt215 => (some (bt215.1, bt215.2.1, bt215.2.2.1, bt215.2.2.2.1, bt215.2.2.2.2))) else (some (0, 0, 0, 0, ([] : List (S94))))) = some (r1, r2, r3, r4, r5) := H; have A2 := Aside0.mk A20; clear A20
 by_cases c3 : t214 = true
 ·subst c3
  have H1 : ((impl_genOf.f k a0_0 a0_1 a0_2 l0_3).bind fun bt215 => (some (bt215.1, bt215.2.1, bt215.2.2.1, bt215.2.2.2.1, bt215.2.2.2.2))) = some (r1, r2, r3, r4, r5) := by rw [if_pos rfl] at H; exact H
  clear H; have H := H1; clear H1; replace H := Option.bind_eq_some_iff.mp H; obtain ⟨⟨t215, t216, t217, t218, t219⟩, A40, H⟩ := H; replace H : (some (t215, t216, t217, t218, t219)) = some (r1, r2, r3, r4, r5) := H; have A4 := Aside0.mk A40; clear A40; simp only [Option.some.injEq, Prod.mk.injEq] at H; obtain ⟨rfl, rfl, rfl, rfl, rfl⟩ := H
  go_enter Try.func37, Try.ntmps37
  go_wp2_with (first | ((with_reducible refine gate_dst (N := 1) rfl ?_); refine box_event ?hg (N := 1) ?hd (cs := #[.int .i64 a0_0, .int .i64 a0_1, .int .i64 a0_2, .slice A0_3 l0_3.length c0_3]) (t := 24) ?hr ?_; (case hd => rfl); (case hg => rfl); (case hr => first | (go_simp; done) | (go_simp; rfl)); intro gb212 hg w5 hbox hb; have BK212 := Aside0.mk (hbox); have GW212 := xG HB hg; have GE212 := xG HB hg; replace HB := xS HB hb; clear hb hbox hg) | ((with_reducible refine gate_dst (N := 2) rfl ?_); refine box_event ?hg (N := 2) ?hd (cs := #[.int .i64 0, .int .i64 0, .int .i64 0, .int .i64 0, .slice none 0 0]) (t := 43) ?hr ?_; (case hd => rfl); (case hg => rfl); (case hr => first | (go_simp; done) | (go_simp; rfl)); intro gb213 hg w6 hbox hb; have BK213 := Aside0.mk (hbox); have GW213 := xG HB hg; have GE213 := xG HB hg; replace HB := xS HB hb; have NB212_213 := xN BK212 hg; have NB213_212 := xM BK212 hg; replace BK212 := xB BK212 hb; clear hb hbox hg; have hnb7 := NB212_213.out; have hnc7 := NB213_212.out; have hcz8_0 : w6.cell? ⟨gb212, 0, none⟩ = some (.int .i64 a0_0) := b1 BK212 0; have hcz8_1 : w6.cell? ⟨gb212, 1, none⟩ = some (.int .i64 a0_1) := b1 BK212 1; have hcz8_2 : w6.cell? ⟨gb212, 2, none⟩ = some (.int .i64 a0_2) := b1 BK212 2; have hcz8_3 : w6.cell? ⟨gb212, 3, none⟩ = some (.slice A0_3 l0_3.length c0_3) := b1 BK212 3; have hfz8_0 := blk_frozen BK212.out 0; have hfz8_1 := blk_frozen BK212.out 1; have hfz8_2 := blk_frozen BK212.out 2; have hfz8_3 := blk_frozen BK212.out 3) | ((with_reducible refine gate_callee (f := 22) rfl ?_); refine goesL_ (some 4) rfl rfl Try.func22 (by kernel_rfl) rfl #[.agg #[.int .i64 a0_0, .int .i64 a0_1, .int .i64 a0_2, .slice A0_3 l0_3.length c0_3]] rfl (by (try simp only [m3]); first | done | rfl | (simp only [d2]; rfl)) ?_; (with_reducible refine (impl_AutoOk.calls k a0_0 a0_1 a0_2 _ _ l0_3 true _ ?side1 ?side2 A2.out).mono ?_); (case side1 => exact zC (Kd.C_below HR0_3.out HB.out)); (case side2 => exact HC0_3.out); rintro e w9 ⟨rfl, hb⟩; refine ⟨_, rfl, ?_⟩; replace BK212 := xB BK212 hb; replace BK213 := xB BK213 hb; replace HB := xS HB hb; (try clear hb); (try clear hb2); (try clear hk); (try clear hi); have hcz10_0 : w9.cell? ⟨gb212, 0, none⟩ = some (.int .i64 a0_0) := b1 BK212 0; have hcz10_1 : w9.cell? ⟨gb212, 1, none⟩ = some (.int .i64 a0_1) := b1 BK212 1; have hcz10_2 : w9.cell? ⟨gb212, 2, none⟩ = some (.int .i64 a0_2) := b1 BK212 2; have hcz10_3 : w9.cell? ⟨gb212, 3, none⟩ = some (.slice A0_3 l0_3.length c0_3) := b1 BK212 3; have hfz10_0 := blk_frozen BK212.out 0; have hfz10_1 := blk_frozen BK212.out 1; have hfz10_2 := blk_frozen BK212.out 2; have hfz10_3 := blk_frozen BK212.out 3) | ((with_reducible refine gate_callee (f := 84) rfl ?_); refine goesL_ (some 8) rfl rfl Try.func84 (by kernel_rfl) rfl #[.agg #[.int .i64 a0_0, .int .i64 a0_1, .int .i64 a0_2, .slice A0_3 l0_3.length c0_3]] rfl (by (try simp only [m3]); first | done | rfl | (simp only [d2]; rfl)) ?_; (with_reducible refine (impl_genOf.calls k a0_0 a0_1 a0_2 _ _ l0_3 t215 t216 t217 t218 t219 _ ?side1 ?side2 A4.out).mono ?_); (case side1 => exact zC (Kd.C_below HR0_3.out HB.out)); (case side2 => exact HC0_3.out); rintro e w11 ⟨v220, rfl, ho0, hb⟩; refine ⟨_, rfl, ?_⟩; have HO221 := Aside0.mk (Kd.R_lower ho0 (below_size (zS HB.out))); replace BK212 := xB BK212 hb; replace BK213 := xB BK213 hb; replace HB := xS HB hb; (try clear hb); (try clear hb2); (try clear hk); (try clear hi); (try clear ho0); have hcz12_0 : w11.cell? ⟨gb213, 0, none⟩ = some (.int .i64 0) := b1 BK213 0; have hcz12_1 : w11.cell? ⟨gb213, 1, none⟩ = some (.int .i64 0) := b1 BK213 1; have hcz12_2 : w11.cell? ⟨gb213, 2, none⟩ = some (.int .i64 0) := b1 BK213 2; have hcz12_3 : w11.cell? ⟨gb213, 3, none⟩ = some (.int .i64 0) := b1 BK213 3; have hcz12_4 : w11.cell? ⟨gb213, 4, none⟩ = some (.slice none 0 0) := b1 BK213 4; have hfz12_0 := blk_frozen BK213.out 0; have hfz12_1 := blk_frozen BK213.out 1; have hfz12_2 := blk_frozen BK213.out 2; have hfz12_3 := blk_frozen BK213.out 3; have hfz12_4 := blk_frozen BK213.out 4; obtain ⟨Ao13, co13, eo13⟩ := Kd.R_slice HO221.out; subst eo13))
  refine bodyPost_ret (results_cell_row rfl _ _ gb213 43 #[.int .i64 t215, .int .i64 t216, .int .i64 t217, .int .i64 t218, .slice Ao13 t219.length co13] (0, 0) _ rfl (xP5 BK213.out) Try.underlying43 rfl (by kernel_rfl)) rfl ?_; exact ⟨_, by first | rfl | (simp [errW_none, errW_some] <;> rfl) | (simp [*, errW_none, errW_some] <;> rfl), by (with_reducible repeat (first | apply Kd.R_alloc | apply Kd.R_drewN | apply Kd.R_drew)); exact Kd.R_mono (Kd.R_far (p := ⟨gb213, 4, none⟩) (Kd.R_far (p := ⟨gb213, 3, none⟩) (Kd.R_far (p := ⟨gb213, 2, none⟩) (Kd.R_far (p := ⟨gb213, 1, none⟩) (Kd.R_far (p := ⟨gb213, 0, none⟩) (Kd.R_types HO221.out BK213.out (by decide)) (fun _ hk => hk.2) (.int .i64 t215)) (fun _ hk => hk.2) (.int .i64 t216)) (fun _ hk => hk.2) (.int .i64 t217)) (fun _ hk => hk.2) (.int .i64 t218)) (fun _ hk => hk.2) (.slice Ao13 t219.length co13)) (fun _ hk => trivial), by repeat (first | (with_reducible first | exact HB.out | apply below_alloc | apply pw_below_drewN | apply below_drew1 | refine below_set ?_ GE212.out | refine below_set ?_ GE213.out) | exact HB.out)⟩
 ·replace c3 := Bool.eq_false_iff.mpr c3; subst c3
  have H1 : (some (0, 0, 0, 0, ([] : List (S94)))) = some (r1, r2, r3, r4, r5) := by rw [if_neg (show ¬ (false = true) by decide)] at H; exact H
  clear H; have H := H1; clear H1; simp only [Option.some.injEq, Prod.mk.injEq] at H; obtain ⟨rfl, rfl, rfl, rfl, rfl⟩ := H
  go_enter Try.func37, Try.ntmps37
  go_wp2_with (first | ((with_reducible refine gate_dst (N := 1) rfl ?_); refine box_event ?hg (N := 1) ?hd (cs := #[.int .i64 a0_0, .int .i64 a0_1, .int .i64 a0_2, .slice A0_3 l0_3.length c0_3]) (t := 24) ?hr ?_; (case hd => rfl); (case hg => rfl); (case hr => first | (go_simp; done) | (go_simp; rfl)); intro gb212 hg w14 hbox hb; have BK212 := Aside0.mk (hbox); have GW212 := xG HB hg; have GE212 := xG HB hg; replace HB := xS HB hb; clear hb hbox hg) | ((with_reducible refine gate_dst (N := 2) rfl ?_); refine box_event ?hg (N := 2) ?hd (cs := #[.int .i64 0, .int .i64 0, .int .i64 0, .int .i64 0, .slice none 0 0]) (t := 43) ?hr ?_; (case hd => rfl); (case hg => rfl); (case hr => first | (go_simp; done) | (go_simp; rfl)); intro gb213 hg w15 hbox hb; have BK213 := Aside0.mk (hbox); have GW213 := xG HB hg; have GE213 := xG HB hg; replace HB := xS HB hb; have NB212_213 := xN BK212 hg; have NB213_212 := xM BK212 hg; replace BK212 := xB BK212 hb; clear hb hbox hg; have hnb16 := NB212_213.out; have hnc16 := NB213_212.out; have hcz17_0 : w15.cell? ⟨gb212, 0, none⟩ = some (.int .i64 a0_0) := b1 BK212 0; have hcz17_1 : w15.cell? ⟨gb212, 1, none⟩ = some (.int .i64 a0_1) := b1 BK212 1; have hcz17_2 : w15.cell? ⟨gb212, 2, none⟩ = some (.int .i64 a0_2) := b1 BK212 2; have hcz17_3 : w15.cell? ⟨gb212, 3, none⟩ = some (.slice A0_3 l0_3.length c0_3) := b1 BK212 3; have hfz17_0 := blk_frozen BK212.out 0; have hfz17_1 := blk_frozen BK212.out 1; have hfz17_2 := blk_frozen BK212.out 2; have hfz17_3 := blk_frozen BK212.out 3) | ((with_reducible refine gate_callee (f := 22) rfl ?_); refine goesL_ (some 4) rfl rfl Try.func22 (by kernel_rfl) rfl #[.agg #[.int .i64 a0_0, .int .i64 a0_1, .int .i64 a0_2, .slice A0_3 l0_3.length c0_3]] rfl (by (try simp only [m3]); first | done | rfl | (simp only [d2]; rfl)) ?_; (with_reducible refine (impl_AutoOk.calls k a0_0 a0_1 a0_2 _ _ l0_3 false _ ?side1 ?side2 A2.out).mono ?_); (case side1 => exact zC (Kd.C_below HR0_3.out HB.out)); (case side2 => exact HC0_3.out); rintro e w18 ⟨rfl, hb⟩; refine ⟨_, rfl, ?_⟩; replace BK212 := xB BK212 hb; replace BK213 := xB BK213 hb; replace HB := xS HB hb; (try clear hb); (try clear hb2); (try clear hk); (try clear hi); have hcz19_0 : w18.cell? ⟨gb213, 0, none⟩ = some (.int .i64 0) := b1 BK213 0; have hcz19_1 : w18.cell? ⟨gb213, 1, none⟩ = some (.int .i64 0) := b1 BK213 1; have hcz19_2 : w18.cell? ⟨gb213, 2, none⟩ = some (.int .i64 0) := b1 BK213 2; have hcz19_3 : w18.cell? ⟨gb213, 3, none⟩ = some (.int .i64 0) := b1 BK213 3; have hcz19_4 : w18.cell? ⟨gb213, 4, none⟩ = some (.slice none 0 0) := b1 BK213 4; have hfz19_0 := blk_frozen BK213.out 0; have hfz19_1 := blk_frozen BK213.out 1; have hfz19_2 := blk_frozen BK213.out 2; have hfz19_3 := blk_frozen BK213.out 3; have hfz19_4 := blk_frozen BK213.out 4))
  refine bodyPost_ret (results_cell_row rfl _ _ gb213 43 #[.int .i64 0, .int .i64 0, .int .i64 0, .int .i64 0, .slice none 0 0] (0, 0) _ rfl (xP5 BK213.out) Try.underlying43 rfl (by kernel_rfl)) rfl ?_; exact ⟨_, by first | rfl | (simp [errW_none, errW_some] <;> rfl) | (simp [*, errW_none, errW_some] <;> rfl), by first | exact Kd.R_nil _ _ _ _ _ | exact Kd.N_nil _ _ _ _ _ | exact Kd.V_nil _ _ _ _ _ | exact Kd.Q_nil _ _ _ _ _ | exact Kd.S_nil _ _ _ _ _, by repeat (first | (with_reducible first | exact HB.out | apply below_alloc | apply pw_below_drewN | apply below_drew1 | refine below_set ?_ GE212.out | refine below_set ?_ GE213.out) | exact HB.out)⟩


/-! ### laws_markGEdgeS: function 85 -/
def laws_markGEdgeS.l0 : Nat → List (S94) → Int → Int → Option (Int × (List (S94)))
 | 0, _, _, _ => none
 | k + 1, x0, x1, x5 => if x5 < (x0.length : Int) then (if 0 ≤ x5 then ((some (x0.set (x5 : Int).toNat (⟨x1, (rd_T94 x0 x5).f1, (rd_T94 x0 x5).f2, (rd_T94 x0 x5).f3⟩ : S94) : List (S94))).bind fun y222 => ((some (y222.set (x5 : Int).toNat (⟨(rd_T94 y222 x5).f0, wrap64 (x1 + 1), (rd_T94 y222 x5).f2, (rd_T94 y222 x5).f3⟩ : S94) : List (S94))).bind fun y223 => ((some (y223.set (x5 : Int).toNat (⟨(rd_T94 y223 x5).f0, (rd_T94 y223 x5).f1, wrap64 ((wrap64 (x1 + 1)) + 1), (rd_T94 y223 x5).f3⟩ : S94) : List (S94))).bind fun y224 => (laws_markGEdgeS.l0 k (y224.set (x5 : Int).toNat (⟨(rd_T94 y224 x5).f0, (rd_T94 y224 x5).f1, (rd_T94 y224 x5).f2, wrap64 ((wrap64 ((wrap64 (x1 + 1)) + 1)) + 1)⟩ : S94)) (wrap64 ((wrap64 ((wrap64 ((wrap64 (x1 + 1)) + 1)) + 1)) + 1)) (wrap64 (x5 + 1)))))) else (none)) else (some (x1, x0))
def laws_markGEdgeS.f (k : Nat) (l0 : List (S94)) (a1 : Int) : Option (Int × (List (S94))) := laws_markGEdgeS.l0 k l0 a1 0
theorem laws_markGEdgeS.mono_l : ∀ k, (∀ y0 y1 y2, LeO (laws_markGEdgeS.l0 k y0 y1 y2) (laws_markGEdgeS.l0 (k + 1) y0 y1 y2))
 | 0 => fun _ _ _ r h => by simp [laws_markGEdgeS.l0] at h
 | k + 1 => by
  have ih0 := laws_markGEdgeS.mono_l k
  ·intro y0 y1 y2
   unfold laws_markGEdgeS.l0
   repeat' first
   | (with_reducible exact ih0 _ _ _)
   | (with_reducible exact LeO.refl _)
   | (with_reducible exact LeO.none _)
   | (with_reducible refine LeO.ite ?_ ?_)
   | (with_reducible refine LeO.bind ?_ (fun _ => ?_))
   | exact ih0 _ _ _
   | exact LeO.none _
   | refine LeO.ite ?_ ?_
   | refine LeO.bind ?_ (fun _ => ?_)
theorem laws_markGEdgeS.mono : ∀ a0 a1 k, LeO (laws_markGEdgeS.f k a0 a1) (laws_markGEdgeS.f (k + 1) a0 a1) := by
 intro a0 a1 k
 have ih0 := laws_markGEdgeS.mono_l k
 unfold laws_markGEdgeS.f
 repeat' first
   | (with_reducible exact ih0 _ _ _)
   | (with_reducible exact LeO.refl _)
   | (with_reducible exact LeO.none _)
   | (with_reducible refine LeO.ite ?_ ?_)
   | (with_reducible refine LeO.bind ?_ (fun _ => ?_))
   | exact ih0 _ _ _
   | exact LeO.none _
   | refine LeO.ite ?_ ?_
   | refine LeO.bind ?_ (fun _ => ?_)
open Go.Proofs.Ytlallflpicgcmaa.Short2 in
set_option maxHeartbeats 8000000 in
set_option maxRecDepth 100000 in
theorem laws_markGEdgeS.calls (k : Nat) (P0_ : Nat → Prop) (u9000_ : Value) (l0 : List (S94)) (a1 : Int) (r1 : Int) (r2 : List (S94)) (w0 w : World) (hB : Below w0.heap.size w0 w) (ho0 : Kd.R k94 94 w w0.heap.size P0_ u9000_ l0) (h : laws_markGEdgeS.f k l0 a1 = some (r1, r2)) :
  Calls Try.prog 85 #[u9000_, .int .i64 a1] w fun e w' => e = .returned (.int .i64 r1) ∧ Kd.R k94 94 w' w0.heap.size (fun k_ => (P0_ k_ ∨ w.heap.size ≤ k_)) u9000_ r2 ∧ Below w0.heap.size w0 w' ∧ Kept w w' (fun k_ => P0_ k_) := by
 have HO0 := Aside0.mk (show Kd.R k94 94 w w0.heap.size (fun k_ => (P0_ k_ ∨ w.heap.size ≤ k_)) u9000_ l0 from Kd.R_mono ho0 (fun k_ hk => (.inl hk))); have HK := Aside0.mk (Kept.refl w (fun k_ => P0_ k_)); have HW0 := Aside0.mk hB.size; have HB := Aside0.mk hB; clear hB; have H : (laws_markGEdgeS.l0 k l0 a1 0) = some (r1, r2) := h; clear h; have H' := Aside0.mk H; clear H
 go_enter Try.func85, Try.ntmps85
 go_wp2
 go_loopg [1, 5] k (fun kq v1 v5 w' => ∃ (x0_1 : List (S94)) (x1_1 : Int) (x5_1 : Int), v1 = .int .i64 x1_1 ∧ v5 = .int .i64 x5_1 ∧ Aside0 (laws_markGEdgeS.l0 kq x0_1 x1_1 x5_1 = some (r1, r2)) ∧ Aside0 (kq ≤ k) ∧ Aside0 (Kd.R k94 94 w' w0.heap.size (fun k_ => (P0_ k_ ∨ w.heap.size ≤ k_)) u9000_ x0_1) ∧ Aside0 (Kept w w' (fun k_ => P0_ k_)) ∧ Aside0 (Below w0.heap.size w0 w'))
 case atStart => exact ⟨(l0), (a1), (0), (by first | rfl | (simp; done) | (simp [*]; done)), (by first | rfl | (simp; done) | (simp [*]; done)), H', ⟨Nat.le_refl _⟩, ⟨zR HO0.out⟩, ⟨by repeat (first | (with_reducible first | exact HK.out | apply Kept.alloc | apply Kept.drewN | apply Kept.drew) | exact HK.out)⟩, ⟨zS HB.out⟩⟩
 case round =>
  clear H'
  try clear p2
  obtain ⟨x0_1, x1_1, x5_1, rfl, rfl, HA, HK1, HO_0, HK, HB⟩ := hrel
  cases gk with
  | zero => exact absurd HA.out (by simp [laws_markGEdgeS.l0])
  | succ k1 =>
   have H := HA.out; clear HA; simp only [laws_markGEdgeS.l0] at H
   by_cases c3 : x5_1 < (x0_1.length : Int)
   ·rw [if_pos c3] at H; have c3b0 : decide (x5_1 < (x0_1.length : Int)) = true := decide_eq_true c3; clear c3
    by_cases c4 : 0 ≤ x5_1
    ·rw [if_pos c4] at H; have c4b0 : decide (0 ≤ x5_1) = true := decide_eq_true c4; clear c4; obtain ⟨y222, hy222⟩ : ∃ y_ : List (S94), y_ = (x0_1.set (x5_1 : Int).toNat (⟨x1_1, (rd_T94 x0_1 x5_1).f1, (rd_T94 x0_1 x5_1).f2, (rd_T94 x0_1 x5_1).f3⟩ : S94)) := ⟨_, rfl⟩
     replace H : ((some (y222.set (x5_1 : Int).toNat (⟨(rd_T94 y222 x5_1).f0, wrap64 (x1_1 + 1), (rd_T94 y222 x5_1).f2, (rd_T94 y222 x5_1).f3⟩ : S94) : List (S94))).bind fun y223 => ((some (y223.set (x5_1 : Int).toNat (⟨(rd_T94 y223 x5_1).f0, (rd_T94 y223 x5_1).f1, wrap64 ((wrap64 (x1_1 + 1)) + 1), (rd_T94 y223 x5_1).f3⟩ : S94) : List (S94))).bind fun y224 => (laws_markGEdgeS.l0 k1 (y224.set (x5_1 : Int).toNat (⟨(rd_T94 y224 x5_1).f0, (rd_T94 y224 x5_1).f1, (rd_T94 y224 x5_1).f2, wrap64 ((wrap64 ((wrap64 (x1_1 + 1)) + 1)) + 1)⟩ : S94)) (wrap64 ((wrap64 ((wrap64 ((wrap64 (x1_1 + 1)) + 1)) + 1)) + 1)) (wrap64 (x5_1 + 1))))) = some (r1, r2) := by first | (rw [hy222]; with_reducible exact H) | (have H2_ := (Option.bind_some _ _).symm.trans H; rw [hy222]; with_reducible exact H2_) | (have H2_ := (Option.bind_some _ _).symm.trans H; with_reducible exact H2_) | with_reducible exact H | (rw [hy222]; exact H) | exact H
     have Ny222 := Aside0.mk hy222; clear hy222; obtain ⟨y223, hy223⟩ : ∃ y_ : List (S94), y_ = (y222.set (x5_1 : Int).toNat (⟨(rd_T94 y222 x5_1).f0, wrap64 (x1_1 + 1), (rd_T94 y222 x5_1).f2, (rd_T94 y222 x5_1).f3⟩ : S94)) := ⟨_, rfl⟩
     replace H : ((some (y223.set (x5_1 : Int).toNat (⟨(rd_T94 y223 x5_1).f0, (rd_T94 y223 x5_1).f1, wrap64 ((wrap64 (x1_1 + 1)) + 1), (rd_T94 y223 x5_1).f3⟩ : S94) : List (S94))).bind fun y224 => (laws_markGEdgeS.l0 k1 (y224.set (x5_1 : Int).toNat (⟨(rd_T94 y224 x5_1).f0, (rd_T94 y224 x5_1).f1, (rd_T94 y224 x5_1).f2, wrap64 ((wrap64 ((wrap64 (x1_1 + 1)) + 1)) + 1)⟩ : S94)) (wrap64 ((wrap64 ((wrap64 ((wrap64 (x1_1 + 1)) + 1)) + 1)) + 1)) (wrap64 (x5_1 + 1)))) = some (r1, r2) := by first | (rw [hy223]; with_reducible exact H) | (have H2_ := (Option.bind_some _ _).symm.trans H; rw [hy223]; with_reducible exact H2_) | (have H2_ := (Option.bind_some _ _).symm.trans H; with_reducible exact H2_) | with_reducible exact H | (rw [hy223]; exact H) | exact H
     have Ny223 := Aside0.mk hy223; clear hy223; obtain ⟨y224, hy224⟩ : ∃ y_ : List (S94), y_ = (y223.set (x5_1 : Int).toNat (⟨(rd_T94 y223 x5_1).f0, (rd_T94 y223 x5_1).f1, wrap64 ((wrap64 (x1_1 + 1)) + 1), (rd_T94 y223 x5_1).f3⟩ : S94)) := ⟨_, rfl⟩
     replace H : (laws_markGEdgeS.l0 k1 (y224.set (x5_1 : Int).toNat (⟨(rd_T94 y224 x5_1).f0, (rd_T94 y224 x5_1).f1, (rd_T94 y224 x5_1).f2, wrap64 ((wrap64 ((wrap64 (x1_1 + 1)) + 1)) + 1)⟩ : S94)) (wrap64 ((wrap64 ((wrap64 ((wrap64 (x1_1 + 1)) + 1)) + 1)) + 1)) (wrap64 (x5_1 + 1))) = some (r1, r2) := by first | (rw [hy224]; with_reducible exact H) | (have H2_ := (Option.bind_some _ _).symm.trans H; rw [hy224]; with_reducible exact H2_) | (have H2_ := (Option.bind_some _ _).symm.trans H; with_reducible exact H2_) | with_reducible exact H | (rw [hy224]; exact H) | exact H
     have Ny224 := Aside0.mk hy224; clear hy224; obtain ⟨y225, hy225⟩ : ∃ y_ : List (S94), y_ = (y224.set (x5_1 : Int).toNat (⟨(rd_T94 y224 x5_1).f0, (rd_T94 y224 x5_1).f1, (rd_T94 y224 x5_1).f2, wrap64 ((wrap64 ((wrap64 (x1_1 + 1)) + 1)) + 1)⟩ : S94)) := ⟨_, rfl⟩
     replace H : (laws_markGEdgeS.l0 k1 y225 (wrap64 ((wrap64 ((wrap64 ((wrap64 (x1_1 + 1)) + 1)) + 1)) + 1)) (wrap64 (x5_1 + 1))) = some (r1, r2) := by first | (rw [hy225]; with_reducible exact H) | (have H2_ := (Option.bind_some _ _).symm.trans H; rw [hy225]; with_reducible exact H2_) | (have H2_ := (Option.bind_some _ _).symm.trans H; with_reducible exact H2_) | with_reducible exact H | (rw [hy225]; exact H) | exact H
     have Ny225 := Aside0.mk hy225; clear hy225; have H' := Aside0.mk H; clear H; obtain ⟨Ao9, co9, eo9⟩ := Kd.R_slice HO_0.out; subst eo9; have p5 : 0 ≤ (x5_1 : Int) := of_decide_eq_true (by first | (with_reducible assumption) | assumption); have q5 : (x5_1 : Int) < ((x0_1.length : Int) : Int) := of_decide_eq_true (by first | (with_reducible assumption) | assumption); obtain ⟨go5, co5, eo5, gb5, gl5, cl5, HG5⟩ := Kd.R_form HO_0.out (by omega)
     (first | cases eo5 | (injection eo5 with ea_ en_ ec_; (first | subst ea_ | (injection ea_ with ea_; subst ea_)); subst ec_; clear en_))
     have GB5 := Aside0.mk gb5; have GG5 := Aside0.mk HG5; clear gb5 gl5 HG5; have HMgo5 := Aside0.mk (show (P0_ go5 ∨ w.heap.size ≤ go5) from (HO_0.out.1 _ rfl)); obtain ⟨ce5, hcl5, hM5, hcc5, hfr5⟩ := Kd.R_elem HO_0.out z94 (x5_1 : Int) p5 q5; obtain rfl := k94_openM hM5; have hx5_0 : wr.cell? ⟨go5, (x5_1 : Int).toNat * 4, none⟩ = some (.int .i64 ((rd_T94 x0_1 x5_1).f0)) := hcc5 0 _ rfl; have hx5_1 : wr.cell? ⟨go5, (x5_1 : Int).toNat * 4 + 1, none⟩ = some (.int .i64 ((rd_T94 x0_1 x5_1).f1)) := hcc5 1 _ rfl; have hx5_2 : wr.cell? ⟨go5, (x5_1 : Int).toNat * 4 + 2, none⟩ = some (.int .i64 ((rd_T94 x0_1 x5_1).f2)) := hcc5 2 _ rfl; have hx5_3 : wr.cell? ⟨go5, (x5_1 : Int).toNat * 4 + 3, none⟩ = some (.int .i64 ((rd_T94 x0_1 x5_1).f3)) := hcc5 3 _ rfl; have hf5_0 : wr.frozen? ⟨go5, (x5_1 : Int).toNat * 4, none⟩ = false := hfr5 0; have hf5_1 : wr.frozen? ⟨go5, (x5_1 : Int).toNat * 4 + 1, none⟩ = false := hfr5 1; have hf5_2 : wr.frozen? ⟨go5, (x5_1 : Int).toNat * 4 + 2, none⟩ = false := hfr5 2; have hf5_3 : wr.frozen? ⟨go5, (x5_1 : Int).toNat * 4 + 3, none⟩ = false := hfr5 3; clear hcl5 hcc5 hfr5 hM5; replace p5 := eq_true p5; replace q5 := eq_true q5; have HX10 := Aside0.mk (show Kd.R k94 94 wr w0.heap.size (fun k_ => (P0_ k_ ∨ w.heap.size ≤ k_)) (.slice (some ⟨go5, 0, none⟩) x0_1.length co9) x0_1 from (zR HO_0.out)); obtain ⟨ce10, hcl10, hM10, hcc10, hfr10⟩ := Kd.R_elem HX10.out z94 (x5_1 : Int) (of_decide_eq_true (by first | (with_reducible assumption) | assumption)) (by have h_ : (x5_1 : Int) < ((x0_1.length : Int) : Int) := of_decide_eq_true (by first | (with_reducible assumption) | assumption); first | exact h_ | (have e_ := (Kd.R_reads' HO_0.out).1; omega) | simpa using h_); obtain rfl := k94_openM hM10; have HP10 := Kd.R_seg HX10.out (x5_1 : Int) (of_decide_eq_true (by first | (with_reducible assumption) | assumption)) (by have h_ : (x5_1 : Int) < ((x0_1.length : Int) : Int) := of_decide_eq_true (by first | (with_reducible assumption) | assumption); first | exact h_ | (have e_ := (Kd.R_reads' HO_0.out).1; omega) | simpa using h_) (seg := [.int .i64 x1_1]) (j := 0) hcl10 hcc10 (show 1 ≤ 4 from by decide) (x' := (⟨x1_1, (rd_T94 x0_1 x5_1).f1, (rd_T94 x0_1 x5_1).f2, (rd_T94 x0_1 x5_1).f3⟩ : S94)) (k94_mkM _ _ _ (⟨x1_1, (rd_T94 x0_1 x5_1).f1, (rd_T94 x0_1 x5_1).f2, (rd_T94 x0_1 x5_1).f3⟩ : S94) ) (fun _ hk => hk); have hx10_0 := hcc10 0 _ rfl
     (try simp only [show (k94).sz = 4 from rfl, Nat.mul_one, Nat.add_zero] at hx10_0)
     have hf10_0 := hfr10 0
     (try simp only [show (k94).sz = 4 from rfl, Nat.mul_one, Nat.add_zero] at hf10_0)
     clear hcl10 hcc10 hfr10 hM10
     go_wp2_with (first | ((with_reducible refine gate_store (t := 3) (p := 16) rfl ?_); refine store_event (t := 3) (p := 16) (v := ?vo_w11) (w1 := (wr.setCell ⟨go5, (x5_1 : Int).toNat * 4, none⟩ (.int .i64 x1_1))) ?hg ?ho ?hn ?hr ?_; (case ho => rfl); (case hg => rfl); (case hn => rfl); (case hr => first | (go_simp; done) | (go_simp; rfl)); intro w11 hw; have hg : wr.grownBy w11 (some go5) := (by rw [hw]; exact HP10.2); have hp_ : Kd.R k94 94 w11 w0.heap.size (fun k_ => (P0_ k_ ∨ w.heap.size ≤ k_)) (.slice (some ⟨go5, 0, none⟩) x0_1.length co9) y222 := (by rw [hw, Ny222.out]; exact HP10.1); clear HP10; have n0_ := Aside0.mk (hp_); have n1_ := Aside0.mk ((by rw [hw]; exact below_set (HB.out) GB5.out : Below w0.heap.size w0 w11)); have n2_ := Aside0.mk (Kept.of_grown (S := (fun k_ => P0_ k_)) hg (by repeat (first | (with_reducible first | exact HK.out | apply Kept.alloc | apply Kept.drewN | apply Kept.drew) | exact HK.out)) (fun k_ e_ => (HO_0.out.1 k_ e_))); clear HO_0; clear HB; clear HK; have HO_0 := n0_; have HB := n1_; have HK := n2_; clear n0_ n1_ n2_; clear hg hw hp_; have p6 : 0 ≤ (x5_1 : Int) := of_decide_eq_true (by first | (with_reducible assumption) | assumption); have q6 : (x5_1 : Int) < ((x0_1.length : Int) : Int) := of_decide_eq_true (by first | (with_reducible assumption) | assumption); obtain ⟨ce6, hcl6, hM6, hcc6, hfr6⟩ := Kd.R_elem HO_0.out z94 (x5_1 : Int) p6 q6; obtain rfl := k94_openM hM6; have hx6_0 : w11.cell? ⟨go5, (x5_1 : Int).toNat * 4, none⟩ = some (.int .i64 ((rd_T94 y222 x5_1).f0)) := hcc6 0 _ rfl; have hx6_1 : w11.cell? ⟨go5, (x5_1 : Int).toNat * 4 + 1, none⟩ = some (.int .i64 ((rd_T94 y222 x5_1).f1)) := hcc6 1 _ rfl; have hx6_2 : w11.cell? ⟨go5, (x5_1 : Int).toNat * 4 + 2, none⟩ = some (.int .i64 ((rd_T94 y222 x5_1).f2)) := hcc6 2 _ rfl; have hx6_3 : w11.cell? ⟨go5, (x5_1 : Int).toNat * 4 + 3, none⟩ = some (.int .i64 ((rd_T94 y222 x5_1).f3)) := hcc6 3 _ rfl; have hf6_0 : w11.frozen? ⟨go5, (x5_1 : Int).toNat * 4, none⟩ = false := hfr6 0; have hf6_1 : w11.frozen? ⟨go5, (x5_1 : Int).toNat * 4 + 1, none⟩ = false := hfr6 1; have hf6_2 : w11.frozen? ⟨go5, (x5_1 : Int).toNat * 4 + 2, none⟩ = false := hfr6 2; have hf6_3 : w11.frozen? ⟨go5, (x5_1 : Int).toNat * 4 + 3, none⟩ = false := hfr6 3; clear hcl6 hcc6 hfr6 hM6; replace p6 := eq_true p6; replace q6 := eq_true q6; have HX12 := Aside0.mk (show Kd.R k94 94 w11 w0.heap.size (fun k_ => (P0_ k_ ∨ w.heap.size ≤ k_)) (.slice (some ⟨go5, 0, none⟩) x0_1.length co9) y222 from (zR HO_0.out)); obtain ⟨ce12, hcl12, hM12, hcc12, hfr12⟩ := Kd.R_elem HX12.out z94 (x5_1 : Int) (of_decide_eq_true (by first | (with_reducible assumption) | assumption)) (by have h_ : (x5_1 : Int) < ((x0_1.length : Int) : Int) := of_decide_eq_true (by first | (with_reducible assumption) | assumption); first | exact h_ | (have e_ := (Kd.R_reads' HO_0.out).1; omega) | simpa using h_); obtain rfl := k94_openM hM12; have HP12 := Kd.R_seg HX12.out (x5_1 : Int) (of_decide_eq_true (by first | (with_reducible assumption) | assumption)) (by have h_ : (x5_1 : Int) < ((x0_1.length : Int) : Int) := of_decide_eq_true (by first | (with_reducible assumption) | assumption); first | exact h_ | (have e_ := (Kd.R_reads' HO_0.out).1; omega) | simpa using h_) (seg := [.int .i64 (wrap64 (x1_1 + 1))]) (j := 1) hcl12 hcc12 (show 2 ≤ 4 from by decide) (x' := (⟨(rd_T94 y222 x5_1).f0, wrap64 (x1_1 + 1), (rd_T94 y222 x5_1).f2, (rd_T94 y222 x5_1).f3⟩ : S94)) (k94_mkM _ _ _ (⟨(rd_T94 y222 x5_1).f0, wrap64 (x1_1 + 1), (rd_T94 y222 x5_1).f2, (rd_T94 y222 x5_1).f3⟩ : S94) ) (fun _ hk => hk); have hx12_1 := hcc12 1 _ rfl; (try simp only [show (k94).sz = 4 from rfl, Nat.mul_one, Nat.add_zero] at hx12_1); have hf12_1 := hfr12 1; (try simp only [show (k94).sz = 4 from rfl, Nat.mul_one, Nat.add_zero] at hf12_1); clear hcl12 hcc12 hfr12 hM12) | ((with_reducible refine gate_store (t := 3) (p := 23) rfl ?_); refine store_event (t := 3) (p := 23) (v := ?vo_w13) (w1 := (w11.setCell ⟨go5, (x5_1 : Int).toNat * 4 + 1, none⟩ (.int .i64 (wrap64 (x1_1 + 1))))) ?hg ?ho ?hn ?hr ?_; (case ho => rfl); (case hg => rfl); (case hn => rfl); (case hr => first | (go_simp; done) | (go_simp; rfl)); intro w13 hw; have hg : w11.grownBy w13 (some go5) := (by rw [hw]; exact HP12.2); have hp_ : Kd.R k94 94 w13 w0.heap.size (fun k_ => (P0_ k_ ∨ w.heap.size ≤ k_)) (.slice (some ⟨go5, 0, none⟩) x0_1.length co9) y223 := (by rw [hw, Ny223.out]; exact HP12.1); clear HP12; have n0_ := Aside0.mk (hp_); have n1_ := Aside0.mk ((by rw [hw]; exact below_set (HB.out) GB5.out : Below w0.heap.size w0 w13)); have n2_ := Aside0.mk (Kept.of_grown (S := (fun k_ => P0_ k_)) hg (by repeat (first | (with_reducible first | exact HK.out | apply Kept.alloc | apply Kept.drewN | apply Kept.drew) | exact HK.out)) (fun k_ e_ => (HO_0.out.1 k_ e_))); clear HO_0; clear HB; clear HK; have HO_0 := n0_; have HB := n1_; have HK := n2_; clear n0_ n1_ n2_; clear hg hw hp_; have p7 : 0 ≤ (x5_1 : Int) := of_decide_eq_true (by first | (with_reducible assumption) | assumption); have q7 : (x5_1 : Int) < ((x0_1.length : Int) : Int) := of_decide_eq_true (by first | (with_reducible assumption) | assumption); obtain ⟨ce7, hcl7, hM7, hcc7, hfr7⟩ := Kd.R_elem HO_0.out z94 (x5_1 : Int) p7 q7; obtain rfl := k94_openM hM7; have hx7_0 : w13.cell? ⟨go5, (x5_1 : Int).toNat * 4, none⟩ = some (.int .i64 ((rd_T94 y223 x5_1).f0)) := hcc7 0 _ rfl; have hx7_1 : w13.cell? ⟨go5, (x5_1 : Int).toNat * 4 + 1, none⟩ = some (.int .i64 ((rd_T94 y223 x5_1).f1)) := hcc7 1 _ rfl; have hx7_2 : w13.cell? ⟨go5, (x5_1 : Int).toNat * 4 + 2, none⟩ = some (.int .i64 ((rd_T94 y223 x5_1).f2)) := hcc7 2 _ rfl; have hx7_3 : w13.cell? ⟨go5, (x5_1 : Int).toNat * 4 + 3, none⟩ = some (.int .i64 ((rd_T94 y223 x5_1).f3)) := hcc7 3 _ rfl; have hf7_0 : w13.frozen? ⟨go5, (x5_1 : Int).toNat * 4, none⟩ = false := hfr7 0; have hf7_1 : w13.frozen? ⟨go5, (x5_1 : Int).toNat * 4 + 1, none⟩ = false := hfr7 1; have hf7_2 : w13.frozen? ⟨go5, (x5_1 : Int).toNat * 4 + 2, none⟩ = false := hfr7 2; have hf7_3 : w13.frozen? ⟨go5, (x5_1 : Int).toNat * 4 + 3, none⟩ = false := hfr7 3; clear hcl7 hcc7 hfr7 hM7; replace p7 := eq_true p7; replace q7 := eq_true q7; have HX14 := Aside0.mk (show Kd.R k94 94 w13 w0.heap.size (fun k_ => (P0_ k_ ∨ w.heap.size ≤ k_)) (.slice (some ⟨go5, 0, none⟩) x0_1.length co9) y223 from (zR HO_0.out)); obtain ⟨ce14, hcl14, hM14, hcc14, hfr14⟩ := Kd.R_elem HX14.out z94 (x5_1 : Int) (of_decide_eq_true (by first | (with_reducible assumption) | assumption)) (by have h_ : (x5_1 : Int) < ((x0_1.length : Int) : Int) := of_decide_eq_true (by first | (with_reducible assumption) | assumption); first | exact h_ | (have e_ := (Kd.R_reads' HO_0.out).1; omega) | simpa using h_); obtain rfl := k94_openM hM14; have HP14 := Kd.R_seg HX14.out (x5_1 : Int) (of_decide_eq_true (by first | (with_reducible assumption) | assumption)) (by have h_ : (x5_1 : Int) < ((x0_1.length : Int) : Int) := of_decide_eq_true (by first | (with_reducible assumption) | assumption); first | exact h_ | (have e_ := (Kd.R_reads' HO_0.out).1; omega) | simpa using h_) (seg := [.int .i64 (wrap64 ((wrap64 (x1_1 + 1)) + 1))]) (j := 2) hcl14 hcc14 (show 3 ≤ 4 from by decide) (x' := (⟨(rd_T94 y223 x5_1).f0, (rd_T94 y223 x5_1).f1, wrap64 ((wrap64 (x1_1 + 1)) + 1), (rd_T94 y223 x5_1).f3⟩ : S94)) (k94_mkM _ _ _ (⟨(rd_T94 y223 x5_1).f0, (rd_T94 y223 x5_1).f1, wrap64 ((wrap64 (x1_1 + 1)) + 1), (rd_T94 y223 x5_1).f3⟩ : S94) ) (fun _ hk => hk); have hx14_2 := hcc14 2 _ rfl; (try simp only [show (k94).sz = 4 from rfl, Nat.mul_one, Nat.add_zero] at hx14_2); have hf14_2 := hfr14 2; (try simp only [show (k94).sz = 4 from rfl, Nat.mul_one, Nat.add_zero] at hf14_2); clear hcl14 hcc14 hfr14 hM14) | ((with_reducible refine gate_store (t := 3) (p := 30) rfl ?_); refine store_event (t := 3) (p := 30) (v := ?vo_w15) (w1 := (w13.setCell ⟨go5, (x5_1 : Int).toNat * 4 + 2, none⟩ (.int .i64 (wrap64 ((wrap64 (x1_1 + 1)) + 1))))) ?hg ?ho ?hn ?hr ?_; (case ho => rfl); (case hg => rfl); (case hn => rfl); (case hr => first | (go_simp; done) | (go_simp; rfl)); intro w15 hw; have hg : w13.grownBy w15 (some go5) := (by rw [hw]; exact HP14.2); have hp_ : Kd.R k94 94 w15 w0.heap.size (fun k_ => (P0_ k_ ∨ w.heap.size ≤ k_)) (.slice (some ⟨go5, 0, none⟩) x0_1.length co9) y224 := (by rw [hw, Ny224.out]; exact HP14.1); clear HP14; have n0_ := Aside0.mk (hp_); have n1_ := Aside0.mk ((by rw [hw]; exact below_set (HB.out) GB5.out : Below w0.heap.size w0 w15)); have n2_ := Aside0.mk (Kept.of_grown (S := (fun k_ => P0_ k_)) hg (by repeat (first | (with_reducible first | exact HK.out | apply Kept.alloc | apply Kept.drewN | apply Kept.drew) | exact HK.out)) (fun k_ e_ => (HO_0.out.1 k_ e_))); clear HO_0; clear HB; clear HK; have HO_0 := n0_; have HB := n1_; have HK := n2_; clear n0_ n1_ n2_; clear hg hw hp_; have p8 : 0 ≤ (x5_1 : Int) := of_decide_eq_true (by first | (with_reducible assumption) | assumption); have q8 : (x5_1 : Int) < ((x0_1.length : Int) : Int) := of_decide_eq_true (by first | (with_reducible assumption) | assumption); obtain ⟨ce8, hcl8, hM8, hcc8, hfr8⟩ := Kd.R_elem HO_0.out z94 (x5_1 : Int) p8 q8; obtain rfl := k94_openM hM8; have hx8_0 : w15.cell? ⟨go5, (x5_1 : Int).toNat * 4, none⟩ = some (.int .i64 ((rd_T94 y224 x5_1).f0)) := hcc8 0 _ rfl; have hx8_1 : w15.cell? ⟨go5, (x5_1 : Int).toNat * 4 + 1, none⟩ = some (.int .i64 ((rd_T94 y224 x5_1).f1)) := hcc8 1 _ rfl; have hx8_2 : w15.cell? ⟨go5, (x5_1 : Int).toNat * 4 + 2, none⟩ = some (.int .i64 ((rd_T94 y224 x5_1).f2)) := hcc8 2 _ rfl; have hx8_3 : w15.cell? ⟨go5, (x5_1 : Int).toNat * 4 + 3, none⟩ = some (.int .i64 ((rd_T94 y224 x5_1).f3)) := hcc8 3 _ rfl; have hf8_0 : w15.frozen? ⟨go5, (x5_1 : Int).toNat * 4, none⟩ = false := hfr8 0; have hf8_1 : w15.frozen? ⟨go5, (x5_1 : Int).toNat * 4 + 1, none⟩ = false := hfr8 1; have hf8_2 : w15.frozen? ⟨go5, (x5_1 : Int).toNat * 4 + 2, none⟩ = false := hfr8 2; have hf8_3 : w15.frozen? ⟨go5, (x5_1 : Int).toNat * 4 + 3, none⟩ = false := hfr8 3; clear hcl8 hcc8 hfr8 hM8; replace p8 := eq_true p8; replace q8 := eq_true q8; have HX16 := Aside0.mk (show Kd.R k94 94 w15 w0.heap.size (fun k_ => (P0_ k_ ∨ w.heap.size ≤ k_)) (.slice (some ⟨go5, 0, none⟩) x0_1.length co9) y224 from (zR HO_0.out)); obtain ⟨ce16, hcl16, hM16, hcc16, hfr16⟩ := Kd.R_elem HX16.out z94 (x5_1 : Int) (of_decide_eq_true (by first | (with_reducible assumption) | assumption)) (by have h_ : (x5_1 : Int) < ((x0_1.length : Int) : Int) := of_decide_eq_true (by first | (with_reducible assumption) | assumption); first | exact h_ | (have e_ := (Kd.R_reads' HO_0.out).1; omega) | simpa using h_); obtain rfl := k94_openM hM16; have HP16 := Kd.R_seg HX16.out (x5_1 : Int) (of_decide_eq_true (by first | (with_reducible assumption) | assumption)) (by have h_ : (x5_1 : Int) < ((x0_1.length : Int) : Int) := of_decide_eq_true (by first | (with_reducible assumption) | assumption); first | exact h_ | (have e_ := (Kd.R_reads' HO_0.out).1; omega) | simpa using h_) (seg := [.int .i64 (wrap64 ((wrap64 ((wrap64 (x1_1 + 1)) + 1)) + 1))]) (j := 3) hcl16 hcc16 (show 4 ≤ 4 from by decide) (x' := (⟨(rd_T94 y224 x5_1).f0, (rd_T94 y224 x5_1).f1, (rd_T94 y224 x5_1).f2, wrap64 ((wrap64 ((wrap64 (x1_1 + 1)) + 1)) + 1)⟩ : S94)) (k94_mkM _ _ _ (⟨(rd_T94 y224 x5_1).f0, (rd_T94 y224 x5_1).f1, (rd_T94 y224 x5_1).f2, wrap64 ((wrap64 ((wrap64 (x1_1 + 1)) + 1)) + 1)⟩ : S94) ) (fun _ hk => hk); have hx16_3 := hcc16 3 _ rfl; (try simp only [show (k94).sz = 4 from rfl, Nat.mul_one, Nat.add_zero] at hx16_3); have hf16_3 := hfr16 3; (try simp only [show (k94).sz = 4 from rfl, Nat.mul_one, Nat.add_zero] at hf16_3); clear hcl16 hcc16 hfr16 hM16) | ((with_reducible refine gate_store (t := 3) (p := 37) rfl ?_); refine store_event (t := 3) (p := 37) (v := ?vo_w17) (w1 := (w15.setCell ⟨go5, (x5_1 : Int).toNat * 4 + 3, none⟩ (.int .i64 (wrap64 ((wrap64 ((wrap64 (x1_1 + 1)) + 1)) + 1))))) ?hg ?ho ?hn ?hr ?_; (case ho => rfl); (case hg => rfl); (case hn => rfl); (case hr => first | (go_simp; done) | (go_simp; rfl)); intro w17 hw; have hg : w15.grownBy w17 (some go5) := (by rw [hw]; exact HP16.2); have hp_ : Kd.R k94 94 w17 w0.heap.size (fun k_ => (P0_ k_ ∨ w.heap.size ≤ k_)) (.slice (some ⟨go5, 0, none⟩) x0_1.length co9) y225 := (by rw [hw, Ny225.out]; exact HP16.1); clear HP16; have n0_ := Aside0.mk (hp_); have n1_ := Aside0.mk ((by rw [hw]; exact below_set (HB.out) GB5.out : Below w0.heap.size w0 w17)); have n2_ := Aside0.mk (Kept.of_grown (S := (fun k_ => P0_ k_)) hg (by repeat (first | (with_reducible first | exact HK.out | apply Kept.alloc | apply Kept.drewN | apply Kept.drew) | exact HK.out)) (fun k_ e_ => (HO_0.out.1 k_ e_))); clear HO_0; clear HB; clear HK; have HO_0 := n0_; have HB := n1_; have HK := n2_; clear n0_ n1_ n2_; clear hg hw hp_))
     go_roundg k1
     case measure => have := HK1.out; omega
     case rel => exact ⟨(y225), (wrap64 ((wrap64 ((wrap64 ((wrap64 (x1_1 + 1)) + 1)) + 1)) + 1)), (wrap64 (x5_1 + 1)), (by first | rfl | (simp; done) | (simp [*]; done)), (by first | rfl | (simp; done) | (simp [*]; done)), H', ⟨by have := HK1.out; omega⟩, ⟨zR HO_0.out⟩, ⟨by repeat (first | (with_reducible first | exact HK.out | apply Kept.alloc | apply Kept.drewN | apply Kept.drew) | exact HK.out)⟩, ⟨zS HB.out⟩⟩
    ·rw [if_neg c4] at H; exact absurd H (by simp)
   ·rw [if_neg c3] at H; have c3b0 : decide (x5_1 < (x0_1.length : Int)) = false := decide_eq_false c3; clear c3; simp only [Option.some.injEq, Prod.mk.injEq] at H; obtain ⟨rfl, rfl⟩ := H; obtain ⟨Ao18, co18, eo18⟩ := Kd.R_slice HO_0.out; subst eo18
    go_wp2
    go_ret; exact ⟨by first | rfl | (simp [errW_none, errW_some] <;> rfl) | (simp [*, errW_none, errW_some] <;> rfl), by (with_reducible repeat (first | apply Kd.R_alloc | apply Kd.R_drewN | apply Kd.R_drew)); exact HO_0.out, by repeat (first | (with_reducible first | exact HB.out | apply below_alloc | apply pw_below_drewN | apply below_drew1) | exact HB.out), by repeat (first | (with_reducible first | exact HK.out | apply Kept.alloc | apply Kept.drewN | apply Kept.drew) | exact HK.out)⟩

/-! ### laws_markGen: function 38 -/
def laws_markGen.f (k : Nat) (a0_0 : Int) (a0_1 : Int) (a0_2 : Int) (a0_3 : Int) (l0_4 : List (S94)) (a1 : Int) : Option (Int × (List (S94))) := (laws_markGEdgeS.f k l0_4 a1).bind fun bt227 => (some (bt227.1, bt227.2))
theorem laws_markGen.mono : ∀ a0 a1 a2 a3 a4 a5 k, LeO (laws_markGen.f k a0 a1 a2 a3 a4 a5) (laws_markGen.f (k + 1) a0 a1 a2 a3 a4 a5) := by
  intro a0 a1 a2 a3 a4 a5 k
  unfold laws_markGen.f
  repeat' first
      | (with_reducible exact laws_markGEdgeS.mono _ _ _)
      | (with_reducible exact LeO.refl _)
      | (with_reducible exact LeO.none _)
      | (with_reducible refine LeO.ite ?_ ?_)
      | (with_reducible refine LeO.bind ?_ (fun _ => ?_))
      | exact laws_markGEdgeS.mono _ _ _
      | exact LeO.none _
      | refine LeO.ite ?_ ?_
      | refine LeO.bind ?_ (fun _ => ?_)
set_option maxHeartbeats 8000000 in
set_option maxRecDepth 100000 in
theorem laws_markGen.calls (k : Nat) (a0_0 : Int) (a0_1 : Int) (a0_2 : Int) (a0_3 : Int) (P0_4_ : Nat → Prop) (u9000_ : Value) (l0_4 : List (S94)) (a1 : Int) (r1 : Int) (r2 : List (S94)) (w0 w : World) (hB : Below w0.heap.size w0 w) (ho0_4 : Kd.R k94 94 w w0.heap.size P0_4_ u9000_ l0_4) (h : laws_markGen.f k a0_0 a0_1 a0_2 a0_3 l0_4 a1 = some (r1, r2)) :
    Calls Try.prog 38 #[.agg #[.int .i64 a0_0, .int .i64 a0_1, .int .i64 a0_2, .int .i64 a0_3, u9000_], .int .i64 a1] w fun e w' => e = .returned (.int .i64 r1) ∧ Kd.R k94 94 w' w0.heap.size (fun k_ => (P0_4_ k_ ∨ w.heap.size ≤ k_)) u9000_ r2 ∧ Below w0.heap.size w0 w' ∧ Kept w w' (fun k_ => P0_4_ k_) := by
  have hu43 := Try.underlying43
  have HO0_4 := Aside0.mk (show Kd.R k94 94 w w0.heap.size (fun k_ => (P0_4_ k_ ∨ w.heap.size ≤ k_)) u9000_ l0_4 from Kd.R_mono ho0_4 (fun k_ hk => (.inl hk)))
  have HK := Aside0.mk (Kept.refl w (fun k_ => P0_4_ k_))
  have HW0 := Aside0.mk hB.size
  have HB := Aside0.mk hB
  clear hB
  have H : ((laws_markGEdgeS.f k l0_4 a1).bind fun bt227 => (some (bt227.1, bt227.2))) = some (r1, r2) := h
  clear h
  replace H := Option.bind_eq_some_iff.mp H
  obtain ⟨⟨t227, t228⟩, A30, H⟩ := H
  replace H : (some (t227, t228)) = some (r1, r2) := H
  have A3 := Aside0.mk A30
  clear A30
  simp only [Option.some.injEq, Prod.mk.injEq] at H
  obtain ⟨rfl, rfl⟩ := H
  obtain ⟨Ao4, co4, eo4⟩ := Kd.R_slice HO0_4.out
  subst eo4
  go_enter Try.func38, Try.ntmps38
  go_wp2_with (first | ((with_reducible refine gate_dst (N := 2) rfl ?_); refine box_event ?hg (N := 2) ?hd (cs := #[.int .i64 a0_0, .int .i64 a0_1, .int .i64 a0_2, .int .i64 a0_3, .slice Ao4 l0_4.length co4]) (t := 43) ?hr ?_; (case hd => rfl); (case hg => rfl); (case hr => first | (go_simp; done) | (go_simp; rfl)); intro gb226 hg w5 hbox hb; have n0_ := Aside0.mk (Kd.R_below (by (with_reducible repeat (first | apply Kd.R_alloc | apply Kd.R_drewN | apply Kd.R_drew)); exact HO0_4.out) hb); have n1_ := Aside0.mk (Kept.below (S := (fun k_ => P0_4_ k_)) (by repeat (first | (with_reducible first | exact HK.out | apply Kept.alloc | apply Kept.drewN | apply Kept.drew) | exact HK.out)) hb); have n2_ := Aside0.mk (below_step (by repeat (first | (with_reducible first | exact HB.out | apply below_alloc | apply pw_below_drewN | apply below_drew1) | exact HB.out)) hb); have n3_ := Aside0.mk (hbox); have n4_ := Aside0.mk ((by rw [hg]; exact (by first | exact HK.out.1 | exact (show Kept w _ (fun k_ => P0_4_ k_) from by repeat (first | (with_reducible first | exact HK.out | apply Kept.alloc | apply Kept.drewN | apply Kept.drew) | exact HK.out)).1) : w.heap.size ≤ gb226)); have n5_ := Aside0.mk ((by rw [hg]; exact (below_size (by repeat (first | (with_reducible first | exact HB.out | apply below_alloc | apply pw_below_drewN | apply below_drew1) | exact HB.out))) : w0.heap.size ≤ gb226)); clear HO0_4; clear HK; clear HB; have HO0_4 := n0_; have HK := n1_; have HB := n2_; have BK226 := n3_; have GW226 := n4_; have GE226 := n5_; clear n0_ n1_ n2_ n3_ n4_ n5_; clear hb hbox hg; have hcz6_0 : w5.cell? ⟨gb226, 0, none⟩ = some (.int .i64 a0_0) := (blk_cell BK226.out 0).trans rfl; have hcz6_1 : w5.cell? ⟨gb226, 1, none⟩ = some (.int .i64 a0_1) := (blk_cell BK226.out 1).trans rfl; have hcz6_2 : w5.cell? ⟨gb226, 2, none⟩ = some (.int .i64 a0_2) := (blk_cell BK226.out 2).trans rfl; have hcz6_3 : w5.cell? ⟨gb226, 3, none⟩ = some (.int .i64 a0_3) := (blk_cell BK226.out 3).trans rfl; have hcz6_4 : w5.cell? ⟨gb226, 4, none⟩ = some (.slice Ao4 l0_4.length co4) := (blk_cell BK226.out 4).trans rfl; have hfz6_0 := blk_frozen BK226.out 0; have hfz6_1 := blk_frozen BK226.out 1; have hfz6_2 := blk_frozen BK226.out 2; have hfz6_3 := blk_frozen BK226.out 3; have hfz6_4 := blk_frozen BK226.out 4) | ((with_reducible refine gate_callee (f := 85) rfl ?_); refine goesL_ (some 8) rfl rfl Try.func85 (by kernel_rfl) rfl #[.slice Ao4 l0_4.length co4, .int .i64 a1] rfl (by (try simp only [List.map_toArray, List.map_cons, List.map_nil]); first | done | rfl | (simp only [List.length_drop, List.length_take]; rfl)) ?_; (with_reducible refine (laws_markGEdgeS.calls k (fun k_ => some k_ = (.slice Ao4 l0_4.length co4 : Value).ownBlock) (.slice Ao4 l0_4.length co4) l0_4 a1 t227 t228 w0 _ ?side1 ?side2 A3.out).mono ?_); (case side1 => repeat (first | (with_reducible first | exact HB.out | apply below_alloc | apply pw_below_drewN | apply below_drew1 | refine below_set ?_ GE226.out) | exact HB.out)); (case side2 => exact Kd.R_tight rfl HO0_4.out); rintro e w7 ⟨rfl, hy0, hb, hkp⟩; refine ⟨_, rfl, ?_⟩; have n0_ := Aside0.mk (Kd.R_reok rfl hy0 (fun k_ e_ => HO0_4.out.1 k_ e_)); have n1_ := Aside0.mk (blk_kept (by (with_reducible repeat (first | refine blk_drewN ?_ _ | refine blk_drew ?_ | refine blk_alloc ?_ _)); exact BK226.out) hkp (fun hs_ => (fun e_ => (Kd.R_ne HO0_4.out BK226.out (by decide)) e_) hs_)); have n2_ := Aside0.mk (Kept.then_ (S := (fun k_ => P0_4_ k_)) (by repeat (first | (with_reducible first | exact HK.out | apply Kept.alloc | apply Kept.drewN | apply Kept.drew | refine Kept.setCell ?_ (.inr GW226.out) _) | exact HK.out)) hkp (fun k_ hs_ => (fun e_ => (HO0_4.out.1 k_ e_.symm)) hs_)); have n3_ := Aside0.mk (hb); clear HO0_4; clear BK226; clear HK; clear HB; have HO0_4 := n0_; have BK226 := n1_; have HK := n2_; have HB := n3_; clear n0_ n1_ n2_ n3_; (try clear hb); (try clear hkp); (try clear hy0)))
  go_ret
  exact ⟨by first | rfl | (simp [errW_none, errW_some] <;> rfl) | (simp [*, errW_none, errW_some] <;> rfl), by (with_reducible repeat (first | apply Kd.R_alloc | apply Kd.R_drewN | apply Kd.R_drew)); exact HO0_4.out, by repeat (first | (with_reducible first | exact HB.out | apply below_alloc | apply pw_below_drewN | apply below_drew1 | refine below_set ?_ GE226.out) | exact HB.out), by repeat (first | (with_reducible first | exact HK.out | apply Kept.alloc | apply Kept.drewN | apply Kept.drew | refine Kept.setCell ?_ (.inr GW226.out) _) | exact HK.out)⟩

end Go.Proofs.Ytlallflpicgcmaa.MFnExactGenOf
