-- Written by a program of this session, out of Lean's print of the translation. Not trusted: Lean checks it.
import Derived.Test.YtlallflpicgcmaaMFnExactRunOkx0
import Derived.Test.YtlallflpicgcmaaMFnExactRunOkx1
namespace Go.Proofs.Ytlallflpicgcmaa.MFnExactRunOk
open Go.RowKit Go.Proofs.YtlallflpicgcmaaW.PrintWords Go.Proofs.YtlallflpicgcmaaW.PrintLast Go.Proofs.YtlallflpicgcmaaW.PrintMore Go.Proofs.Ytlallflpicgcmaa.Short4
attribute [local go_sem] max2_int min2_int max_two min_two max_three min_three max_four min_four   -- for this text's walks alone
set_option linter.unusedVariables false
set_option linter.unusedSimpArgs false


/-! ### spec_l3Letters: function 115 -/
def spec_l3Letters.l0 : Nat → List Int → Int → Int → Option (Bool)
 | 0, _, _, _ => none
 | k + 1, x0, x1, x5 => if x5 < (x0.length : Int) then (if 0 ≤ x5 then ((spec_l1In.f (rd x0 x5) 0 (wrap64 (x1 - 1))).bind fun t152 => (if t152 = true then (spec_l3Letters.l0 k x0 x1 (wrap64 (x5 + 1))) else (some false))) else (none)) else (some true)
def spec_l3Letters.f (k : Nat) (l0 : List Int) (a1 : Int) : Option (Bool) := spec_l3Letters.l0 k l0 a1 0
theorem spec_l3Letters.mono_l : ∀ k, (∀ y0 y1 y2, LeO (spec_l3Letters.l0 k y0 y1 y2) (spec_l3Letters.l0 (k + 1) y0 y1 y2))
 | 0 => fun _ _ _ r h => by simp [spec_l3Letters.l0] at h
 | k + 1 => by
  have ih0 := spec_l3Letters.mono_l k
  ·intro y0 y1 y2
   unfold spec_l3Letters.l0
   repeat' first
   | (with_reducible exact ih0 _ _ _)
   | (with_reducible exact LeO.refl _)
   | (with_reducible exact LeO.none _)
   | (with_reducible refine LeO.ite ?_ ?_)
   | (with_reducible refine LeO.bind ?_ (fun _ => ?_))
   | exact ih0 _ _ _
   | exact LeO.none _
   | refine LeO.ite ?_ ?_
   | refine LeO.bind ?_ (fun _ => ?_)
theorem spec_l3Letters.mono : ∀ a0 a1 k, LeO (spec_l3Letters.f k a0 a1) (spec_l3Letters.f (k + 1) a0 a1) := by
 intro a0 a1 k
 have ih0 := spec_l3Letters.mono_l k
 unfold spec_l3Letters.f
 repeat' first
   | (with_reducible exact ih0 _ _ _)
   | (with_reducible exact LeO.refl _)
   | (with_reducible exact LeO.none _)
   | (with_reducible refine LeO.ite ?_ ?_)
   | (with_reducible refine LeO.bind ?_ (fun _ => ?_))
   | exact ih0 _ _ _
   | exact LeO.none _
   | refine LeO.ite ?_ ?_
   | refine LeO.bind ?_ (fun _ => ?_)
open Go.Proofs.Ytlallflpicgcmaa.Short2 in
set_option maxHeartbeats 8000000 in
set_option maxRecDepth 100000 in
theorem spec_l3Letters.calls (k : Nat) (A0 : Option Addr) (c0 : Nat) (l0 : List Int) (a1 : Int) (r : Bool) (w : World) (hr0 : Kd.C (Kd.int .i64) w A0 l0.length l0) (hc0 : l0.length ≤ c0) (h : spec_l3Letters.f k l0 a1 = some r) :
  Calls Try.prog 115 #[.slice A0 l0.length c0, .int .i64 a1] w fun e w' => e = .returned (.bool r) ∧ Drawn0 w w' := by
 have HR0 := Aside0.mk hr0; have HC0 := Aside0.mk hc0; clear hr0 hc0; have H : (spec_l3Letters.l0 k l0 a1 0) = some r := h; clear h; have H' := Aside0.mk H; clear H
 go_enter Try.func115, Try.ntmps115
 go_wp2
 go_loopg [5] k (fun kq v5 w' => ∃ (x5_1 : Int), v5 = .int .i64 x5_1 ∧ Aside0 (spec_l3Letters.l0 kq l0 a1 x5_1 = some r) ∧ Aside0 (kq ≤ k) ∧ Drawn0 w w')
 case atStart => exact ⟨(0), (by first | rfl | (simp; done) | (simp [*]; done) | (rw [Int.tmod_eq_emod_of_nonneg (Int.natCast_nonneg _)]; done)), H', ⟨Nat.le_refl _⟩, by repeat (first | exact Drawn0.refl _ | apply Drawn0.step)⟩
 case round =>
  clear H'
  try clear c1
  try clear p2
  obtain ⟨x5_1, rfl, HA, HK1, ⟨m1, rfl⟩⟩ := hrel
  cases gk with
  | zero => exact absurd HA.out (by simp [spec_l3Letters.l0])
  | succ k1 =>
   have H := HA.out; clear HA; simp only [spec_l3Letters.l0] at H
   by_cases c3 : x5_1 < (l0.length : Int)
   ·rw [if_pos c3] at H; have c3b0 : decide (x5_1 < (l0.length : Int)) = true := decide_eq_true c3; clear c3
    by_cases c4 : 0 ≤ x5_1
    ·rw [if_pos c4] at H; have c4b0 : decide (0 ≤ x5_1) = true := decide_eq_true c4; clear c4; replace H := Option.bind_eq_some_iff.mp H; obtain ⟨t152, A50, H⟩ := H; replace H : (if t152 = true then (spec_l3Letters.l0 k1 l0 a1 (wrap64 (x5_1 + 1))) else (some false)) = some r := H; have A5 := Aside0.mk A50; clear A50
     by_cases c6 : t152 = true
     ·subst c6
      have H1 : (spec_l3Letters.l0 k1 l0 a1 (wrap64 (x5_1 + 1))) = some r := by rw [if_pos rfl] at H; exact H
      clear H; have H := H1; clear H1; have H' := Aside0.mk H; clear H; have p151 : 0 ≤ (x5_1 : Int) := oD; have q151 : x5_1 < (l0.length : Int) := oD; obtain ⟨ad151, e151, hx151_0⟩ := Kd.at_int HR0.out x5_1 p151 q151
      cases e151
      replace p151 := eq_true p151; replace q151 := eq_true q151
      go_wp2_with (first | ((with_reducible refine gate_callee (f := 58) rfl ?_); refine goesL_ (some 18) rfl rfl Try.func58 (by kernel_rfl) rfl #[.int .i64 (rd l0 x5_1), .int .i64 0, .int .i64 (wrap64 (a1 - 1))] rfl (by (try simp only [m3]); first | done | rfl | (simp only [d2]; rfl)) ?_; (with_reducible refine (spec_l1In.calls (rd l0 x5_1) 0 (wrap64 (a1 - 1)) true _ A5.out).mono ?_); rintro e w' ⟨rfl, ⟨nd, rfl⟩⟩; refine ⟨_, rfl, ?_⟩))
      go_roundg k1
      case measure => have := HK1.out; omega
      case rel => exact ⟨(wrap64 (x5_1 + 1)), (by first | rfl | (simp; done) | (simp [*]; done) | (rw [Int.tmod_eq_emod_of_nonneg (Int.natCast_nonneg _)]; done)), H', ⟨by have := HK1.out; omega⟩, by repeat (first | exact Drawn0.refl _ | apply Drawn0.step)⟩
     ·replace c6 := Bool.eq_false_iff.mpr c6; subst c6
      have H1 : (some false) = some r := by rw [if_neg (show ¬ (false = true) by decide)] at H; exact H
      clear H; have H := H1; clear H1; obtain rfl := Option.some.inj H; have p151 : 0 ≤ (x5_1 : Int) := oD; have q151 : x5_1 < (l0.length : Int) := oD; obtain ⟨ad151, e151, hx151_0⟩ := Kd.at_int HR0.out x5_1 p151 q151
      cases e151
      replace p151 := eq_true p151; replace q151 := eq_true q151
      go_wp2_with (first | ((with_reducible refine gate_callee (f := 58) rfl ?_); refine goesL_ (some 18) rfl rfl Try.func58 (by kernel_rfl) rfl #[.int .i64 (rd l0 x5_1), .int .i64 0, .int .i64 (wrap64 (a1 - 1))] rfl (by (try simp only [m3]); first | done | rfl | (simp only [d2]; rfl)) ?_; (with_reducible refine (spec_l1In.calls (rd l0 x5_1) 0 (wrap64 (a1 - 1)) false _ A5.out).mono ?_); rintro e w' ⟨rfl, ⟨nd, rfl⟩⟩; refine ⟨_, rfl, ?_⟩))
      go_ret; exact ⟨by first | rfl | (simp; done) | (simp [*]; done), by repeat (first | exact Drawn0.refl _ | apply Drawn0.step)⟩
    ·rw [if_neg c4] at H; exact absurd H (by simp)
   ·rw [if_neg c3] at H; have c3b0 : decide (x5_1 < (l0.length : Int)) = false := decide_eq_false c3; clear c3; obtain rfl := Option.some.inj H
    go_wp2
    go_ret; exact ⟨by first | rfl | (simp; done) | (simp [*]; done), by repeat (first | exact Drawn0.refl _ | apply Drawn0.step)⟩


/-! ### spec_WordOk: function 95 -/
def spec_WordOk.j0 : Nat → Int → Bool → List Int → List Int → Option (Bool)
 | 0, _, _, _, _ => none
 | k + 1, x1, x20, x154000, x154001 => if x20 = true then (some false) else ((spec_l3Letters.f k x154000 x1).bind fun t156 => (if t156 = true then ((spec_l3Letters.f k x154001 x1).bind fun t157 => (some t157)) else (some false)))
def spec_WordOk.f (k : Nat) (l0_0 : List Int) (l0_1 : List Int) (a1 : Int) : Option (Bool) := (spec_l1In.f a1 1 8).bind fun t154 => (if t154 = true then (if (l0_0.length : Int) > 40 then (spec_WordOk.j0 k a1 true l0_0 l0_1) else ((spec_l1In.f (l0_1.length : Int) 1 40).bind fun t155 => (spec_WordOk.j0 k a1 (!t155) l0_0 l0_1))) else (spec_WordOk.j0 k a1 true l0_0 l0_1))
theorem spec_WordOk.mono_l : ∀ k, (∀ y0 y1 y2 y3, LeO (spec_WordOk.j0 k y0 y1 y2 y3) (spec_WordOk.j0 (k + 1) y0 y1 y2 y3))
 | 0 => fun _ _ _ _ r h => by simp [spec_WordOk.j0] at h
 | k + 1 => by
  have ih0 := spec_WordOk.mono_l k
  ·intro y0 y1 y2 y3
   unfold spec_WordOk.j0
   repeat' first
   | (with_reducible exact ih0 _ _ _ _)
   | (with_reducible exact spec_l3Letters.mono _ _ _)
   | (with_reducible exact LeO.refl _)
   | (with_reducible exact LeO.none _)
   | (with_reducible refine LeO.ite ?_ ?_)
   | (with_reducible refine LeO.bind ?_ (fun _ => ?_))
   | exact ih0 _ _ _ _
   | exact spec_l3Letters.mono _ _ _
   | exact LeO.none _
   | refine LeO.ite ?_ ?_
   | refine LeO.bind ?_ (fun _ => ?_)
theorem spec_WordOk.mono : ∀ a0 a1 a2 k, LeO (spec_WordOk.f k a0 a1 a2) (spec_WordOk.f (k + 1) a0 a1 a2) := by
 intro a0 a1 a2 k
 have ih0 := spec_WordOk.mono_l k
 unfold spec_WordOk.f
 repeat' first
   | (with_reducible exact ih0 _ _ _ _)
   | (with_reducible exact spec_l3Letters.mono _ _ _)
   | (with_reducible exact LeO.refl _)
   | (with_reducible exact LeO.none _)
   | (with_reducible refine LeO.ite ?_ ?_)
   | (with_reducible refine LeO.bind ?_ (fun _ => ?_))
   | exact ih0 _ _ _ _
   | exact spec_l3Letters.mono _ _ _
   | exact LeO.none _
   | refine LeO.ite ?_ ?_
   | refine LeO.bind ?_ (fun _ => ?_)
open Go.Proofs.Ytlallflpicgcmaa.Short2 in
set_option maxHeartbeats 8000000 in
set_option maxRecDepth 100000 in
theorem spec_WordOk.calls (k : Nat) (A0_0 : Option Addr) (c0_0 : Nat) (l0_0 : List Int) (A0_1 : Option Addr) (c0_1 : Nat) (l0_1 : List Int) (a1 : Int) (r : Bool) (w : World) (hr0_0 : Kd.C (Kd.int .i64) w A0_0 l0_0.length l0_0) (hc0_0 : l0_0.length ≤ c0_0) (hr0_1 : Kd.C (Kd.int .i64) w A0_1 l0_1.length l0_1) (hc0_1 : l0_1.length ≤ c0_1) (h : spec_WordOk.f k l0_0 l0_1 a1 = some r) :
  Calls Try.prog 95 #[.agg #[.slice A0_0 l0_0.length c0_0, .slice A0_1 l0_1.length c0_1], .int .i64 a1] w fun e w' => e = .returned (.bool r) ∧ Below w.heap.size w w' := by
 have hu78 := Try.underlying78; have HR0_0 := Aside0.mk hr0_0; have HC0_0 := Aside0.mk hc0_0; clear hr0_0 hc0_0; have HR0_1 := Aside0.mk hr0_1; have HC0_1 := Aside0.mk hc0_1; clear hr0_1 hc0_1; have HB := Aside0.mk (Below.refl w.heap.size w); have H : ((spec_l1In.f a1 1 8).bind fun t154 => (if t154 = true then (if (l0_0.length : Int) > 40 then (spec_WordOk.j0 k a1 true l0_0 l0_1) else ((spec_l1In.f (l0_1.length : Int) 1 40).bind fun t155 => (spec_WordOk.j0 k a1 (!t155) l0_0 l0_1))) else (spec_WordOk.j0 k a1 true l0_0 l0_1))) = some r := h; clear h; have HC3 := Aside0.mk H; clear H
 go_enter Try.func95, Try.ntmps95
 go_upto_region 1 with (first | ((with_reducible refine gate_dst (N := 2) rfl ?_); (try (refine gate_guard (by rfl) ?_; dsimp only)); refine box_event ?hg (N := 2) ?hd (cs := #[.slice A0_0 l0_0.length c0_0, .slice A0_1 l0_1.length c0_1]) (t := 78) ?hr ?_; (case hd => rfl); (case hg => rfl); (case hr => first | (go_simp; done) | (go_simp; rfl)); intro gb153 hg w4 hbox hb; have BK153 := Aside0.mk (hbox); have GW153 := xG HB hg; have GE153 := xG HB hg; replace HB := xS HB hb; clear hb hbox hg))
 (try simp only [Act.put, q3])
 go_cut [20] (fun v20 wc => ∃ (kq : Nat) (x20_2 : Bool), v20 = .bool x20_2 ∧ Aside0 (spec_WordOk.j0 kq a1 x20_2 l0_0 l0_1 = some r) ∧ Aside0 (kq ≤ k) ∧ Aside0 (wc.heap[gb153]? = some (.cells #[(.slice A0_0 l0_0.length c0_0), (.slice A0_1 l0_1.length c0_1)] 78 (0, 0))) ∧ Aside0 (Below w.heap.size w wc))
 case first =>
  have H := HC3.out; clear HC3; replace H := Option.bind_eq_some_iff.mp H; obtain ⟨t154, A50, H⟩ := H; replace H : (if t154 = true then (if (l0_0.length : Int) > 40 then (spec_WordOk.j0 k a1 true l0_0 l0_1) else ((spec_l1In.f (l0_1.length : Int) 1 40).bind fun t155 => (spec_WordOk.j0 k a1 (!t155) l0_0 l0_1))) else (spec_WordOk.j0 k a1 true l0_0 l0_1)) = some r := H; have A5 := Aside0.mk A50; clear A50
  by_cases c6 : t154 = true
  ·subst c6
   have H1 : (if (l0_0.length : Int) > 40 then (spec_WordOk.j0 k a1 true l0_0 l0_1) else ((spec_l1In.f (l0_1.length : Int) 1 40).bind fun t155 => (spec_WordOk.j0 k a1 (!t155) l0_0 l0_1))) = some r := by rw [if_pos rfl] at H; exact H
   clear H; have H := H1; clear H1
   by_cases c7 : (l0_0.length : Int) > 40
   ·rw [if_pos c7] at H; have c7b0 : decide (40 < (l0_0.length : Int)) = true := decide_eq_true c7; have c7b1 : decide (40 < l0_0.length) = true := decide_eq_true (by omega); clear c7
    (first | rw [c7b0] | (simp only [i64_w, i32_w]; rw [c7b0]) | skip)
    have H' := Aside0.mk H; clear H
    go_wp2_with (first | ((with_reducible refine gate_callee (f := 58) rfl ?_); refine goesL_ (some 6) rfl rfl Try.func58 (by kernel_rfl) rfl #[.int .i64 a1, .int .i64 1, .int .i64 8] rfl (by (try simp only [m3]); first | done | rfl | (simp only [d2]; rfl)) ?_; (with_reducible refine (spec_l1In.calls a1 1 8 true _ A5.out).mono ?_); rintro e w' ⟨rfl, ⟨nd, rfl⟩⟩; refine ⟨_, rfl, ?_⟩; have hcz8_0 : w4.cell? ⟨gb153, 0, none⟩ = some (.slice A0_0 l0_0.length c0_0) := b1 BK153 0; have hcz8_1 : w4.cell? ⟨gb153, 1, none⟩ = some (.slice A0_1 l0_1.length c0_1) := b1 BK153 1; have hfz8_0 := blk_frozen BK153.out 0; have hfz8_1 := blk_frozen BK153.out 1))
    go_meet
    case rel => exact ⟨_, (true), (by first | rfl | (simp; done) | (simp [*]; done) | (rw [Int.tmod_eq_emod_of_nonneg (Int.natCast_nonneg _)]; done)), H', ⟨by first | omega | exact Nat.le_refl _⟩, ⟨zB BK153.out⟩, ⟨zS HB.out⟩⟩
   ·rw [if_neg c7] at H; have c7b0 : decide (40 < (l0_0.length : Int)) = false := decide_eq_false c7; have c7b1 : decide (40 < l0_0.length) = false := decide_eq_false (by omega); clear c7
    (first | rw [c7b0] | (simp only [i64_w, i32_w]; rw [c7b0]) | skip)
    replace H := Option.bind_eq_some_iff.mp H; obtain ⟨t155, A90, H⟩ := H; replace H : (spec_WordOk.j0 k a1 (!t155) l0_0 l0_1) = some r := H; have A9 := Aside0.mk A90; clear A90; have H' := Aside0.mk H; clear H
    go_wp2_with (first | ((with_reducible refine gate_callee (f := 58) rfl ?_); refine goesL_ (some 6) rfl rfl Try.func58 (by kernel_rfl) rfl #[.int .i64 a1, .int .i64 1, .int .i64 8] rfl (by (try simp only [m3]); first | done | rfl | (simp only [d2]; rfl)) ?_; (with_reducible refine (spec_l1In.calls a1 1 8 true _ A5.out).mono ?_); rintro e w' ⟨rfl, ⟨nd, rfl⟩⟩; refine ⟨_, rfl, ?_⟩; have hcz10_0 : w4.cell? ⟨gb153, 0, none⟩ = some (.slice A0_0 l0_0.length c0_0) := b1 BK153 0; have hcz10_1 : w4.cell? ⟨gb153, 1, none⟩ = some (.slice A0_1 l0_1.length c0_1) := b1 BK153 1; have hfz10_0 := blk_frozen BK153.out 0; have hfz10_1 := blk_frozen BK153.out 1) | (go_at_call 58; (with_reducible refine (spec_l1In.calls (l0_1.length : Int) 1 40 t155 _ A9.out).mono ?_); rintro e w' ⟨rfl, ⟨nd, rfl⟩⟩))
    go_meet
    case rel => exact ⟨_, (!t155), (by first | rfl | (simp; done) | (simp [*]; done) | (rw [Int.tmod_eq_emod_of_nonneg (Int.natCast_nonneg _)]; done)), H', ⟨by first | omega | exact Nat.le_refl _⟩, ⟨zB BK153.out⟩, ⟨zS HB.out⟩⟩
  ·replace c6 := Bool.eq_false_iff.mpr c6; subst c6
   have H1 : (spec_WordOk.j0 k a1 true l0_0 l0_1) = some r := by rw [if_neg (show ¬ (false = true) by decide)] at H; exact H
   clear H; have H := H1; clear H1; have H' := Aside0.mk H; clear H
   go_wp2_with (first | ((with_reducible refine gate_callee (f := 58) rfl ?_); refine goesL_ (some 6) rfl rfl Try.func58 (by kernel_rfl) rfl #[.int .i64 a1, .int .i64 1, .int .i64 8] rfl (by (try simp only [m3]); first | done | rfl | (simp only [d2]; rfl)) ?_; (with_reducible refine (spec_l1In.calls a1 1 8 false _ A5.out).mono ?_); rintro e w' ⟨rfl, ⟨nd, rfl⟩⟩; refine ⟨_, rfl, ?_⟩))
   go_meet
   case rel => exact ⟨_, (true), (by first | rfl | (simp; done) | (simp [*]; done) | (rw [Int.tmod_eq_emod_of_nonneg (Int.natCast_nonneg _)]; done)), H', ⟨by first | omega | exact Nat.le_refl _⟩, ⟨zB BK153.out⟩, ⟨zS HB.out⟩⟩
 case rest =>
  clear HC3
  try clear p2
  try clear c5
  try clear c6
  try clear c7
  try clear c7b0
  try clear c7b1
  try clear c9
  try clear hcz10_0
  try clear hcz10_1
  try clear hcz8_0
  try clear hcz8_1
  try clear hfz10_0
  try clear hfz10_1
  try clear hfz8_0
  try clear hfz8_1
  obtain ⟨kq, x20_2, rfl, HA, HJ2, BK153, HB⟩ := hcut
  cases kq with
  | zero => exact absurd HA.out (by simp [spec_WordOk.j0])
  | succ kj2 =>
   have H := HA.out; clear HA; simp only [spec_WordOk.j0] at H
   by_cases c11 : x20_2 = true
   ·subst c11
    have H1 : (some false) = some r := by rw [if_pos rfl] at H; exact H
    clear H; have H := H1; clear H1; obtain rfl := Option.some.inj H
    go_wp2
    go_ret; exact ⟨by first | rfl | (simp [errW_none, errW_some] <;> rfl) | (simp [*, errW_none, errW_some] <;> rfl), by repeat (first | (with_reducible first | exact HB.out | apply below_alloc | apply pw_below_drewN | apply below_drew1 | refine below_set ?_ GE153.out) | exact HB.out)⟩
   ·replace c11 := Bool.eq_false_iff.mpr c11; subst c11
    have H1 : ((spec_l3Letters.f kj2 l0_0 a1).bind fun t156 => (if t156 = true then ((spec_l3Letters.f kj2 l0_1 a1).bind fun t157 => (some t157)) else (some false))) = some r := by rw [if_neg (show ¬ (false = true) by decide)] at H; exact H
    clear H; have H := H1; clear H1; replace H := Option.bind_eq_some_iff.mp H; obtain ⟨t156, A120, H⟩ := H; replace H : (if t156 = true then ((spec_l3Letters.f kj2 l0_1 a1).bind fun t157 => (some t157)) else (some false)) = some r := H; have A12 := Aside0.mk A120; clear A120
    by_cases c13 : t156 = true
    ·subst c13
     have H1 : ((spec_l3Letters.f kj2 l0_1 a1).bind fun t157 => (some t157)) = some r := by rw [if_pos rfl] at H; exact H
     clear H; have H := H1; clear H1; replace H := Option.bind_eq_some_iff.mp H; obtain ⟨t157, A140, H⟩ := H; replace H : (some t157) = some r := H; have A14 := Aside0.mk A140; clear A140; obtain rfl := Option.some.inj H; have hcz15_0 : wc.cell? ⟨gb153, 0, none⟩ = some (.slice A0_0 l0_0.length c0_0) := b1 BK153 0; have hcz15_1 : wc.cell? ⟨gb153, 1, none⟩ = some (.slice A0_1 l0_1.length c0_1) := b1 BK153 1; have hfz15_0 := blk_frozen BK153.out 0; have hfz15_1 := blk_frozen BK153.out 1
     go_wp2_with (first | ((with_reducible refine gate_callee (f := 115) rfl ?_); refine goesL_ (some 24) rfl rfl Try.func115 (by kernel_rfl) rfl #[.slice A0_0 l0_0.length c0_0, .int .i64 a1] rfl (by (try simp only [m3]); first | done | rfl | (simp only [d2]; rfl)) ?_; (with_reducible refine (spec_l3Letters.calls kj2 _ _ l0_0 a1 true _ ?side1 ?side2 A12.out).mono ?_); (case side1 => exact zC (Kd.C_below HR0_0.out HB.out)); (case side2 => exact HC0_0.out); rintro e w' ⟨rfl, ⟨nd, rfl⟩⟩; refine ⟨_, rfl, ?_⟩) | (go_at_call 115; (with_reducible refine (spec_l3Letters.calls kj2 _ _ l0_1 a1 t157 _ ?side1 ?side2 A14.out).mono ?_); (case side1 => repeat (first | exact (Kd.C_below HR0_1.out (zS HB.out)) | (with_reducible refine Kd.C_alloc ?_ _) | (with_reducible refine Kd.C_drewN ?_ _) | (with_reducible refine Kd.C_drew ?_))); (case side2 => exact HC0_1.out); rintro e w' ⟨rfl, ⟨nd, rfl⟩⟩))
     go_ret; exact ⟨by first | rfl | (simp [errW_none, errW_some] <;> rfl) | (simp [*, errW_none, errW_some] <;> rfl), by repeat (first | (with_reducible first | exact HB.out | apply below_alloc | apply pw_below_drewN | apply below_drew1 | refine below_set ?_ GE153.out) | exact HB.out)⟩
    ·replace c13 := Bool.eq_false_iff.mpr c13; subst c13
     have H1 : (some false) = some r := by rw [if_neg (show ¬ (false = true) by decide)] at H; exact H
     clear H; have H := H1; clear H1; obtain rfl := Option.some.inj H; have hcz16_0 : wc.cell? ⟨gb153, 0, none⟩ = some (.slice A0_0 l0_0.length c0_0) := b1 BK153 0; have hcz16_1 : wc.cell? ⟨gb153, 1, none⟩ = some (.slice A0_1 l0_1.length c0_1) := b1 BK153 1; have hfz16_0 := blk_frozen BK153.out 0; have hfz16_1 := blk_frozen BK153.out 1
     go_wp2_with (first | ((with_reducible refine gate_callee (f := 115) rfl ?_); refine goesL_ (some 24) rfl rfl Try.func115 (by kernel_rfl) rfl #[.slice A0_0 l0_0.length c0_0, .int .i64 a1] rfl (by (try simp only [m3]); first | done | rfl | (simp only [d2]; rfl)) ?_; (with_reducible refine (spec_l3Letters.calls kj2 _ _ l0_0 a1 false _ ?side1 ?side2 A12.out).mono ?_); (case side1 => exact zC (Kd.C_below HR0_0.out HB.out)); (case side2 => exact HC0_0.out); rintro e w' ⟨rfl, ⟨nd, rfl⟩⟩; refine ⟨_, rfl, ?_⟩))
     go_ret; exact ⟨by first | rfl | (simp [errW_none, errW_some] <;> rfl) | (simp [*, errW_none, errW_some] <;> rfl), by repeat (first | (with_reducible first | exact HB.out | apply below_alloc | apply pw_below_drewN | apply below_drew1 | refine below_set ?_ GE153.out) | exact HB.out)⟩

/-! ### spec_l1Bit: function 109 -/
def spec_l1Bit.f (a0 : Int) : Option (Int) := if 0 ≤ (Go.bits .and .i64 a0 31) then (some (shl .i64 1 (Go.bits .and .i64 a0 31))) else (none)
set_option maxHeartbeats 8000000 in
set_option maxRecDepth 100000 in
theorem spec_l1Bit.calls (a0 : Int) (r : Int) (w : World) (h : spec_l1Bit.f a0 = some r) :
    Calls Try.prog 109 #[.int .i64 a0] w fun e w' => e = .returned (.int .i64 r) ∧ Drawn0 w w' := by
  have H : (if 0 ≤ (Go.bits .and .i64 a0 31) then (some (shl .i64 1 (Go.bits .and .i64 a0 31))) else (none)) = some r := h
  clear h
  by_cases c2 : 0 ≤ (Go.bits .and .i64 a0 31)
  · rw [if_pos c2] at H
    have c2b0 := eq_true c2
    have c2b1 : decide (0 ≤ (Go.bits .and .i64 a0 31)) = true := decide_eq_true c2
    clear c2
    obtain ⟨ji3, hji3⟩ : ∃ j_ : Int, (shl .i64 1 (Go.bits .and .i64 a0 31)) = j_ := ⟨_, rfl⟩
    replace H : (some ji3) = some r := by first | (rw [hji3] at H; exact H) | (simp only [hji3] at H ⊢; exact H)
    have hji3_ : (IntKind.i64.wrap (1 * 2 ^ min (Go.bits .and .i64 a0 31).toNat 64)) = ji3 := hji3
    have hji3z : (Go.bits .and .i64 a0 31) ≤ 64 → (IntKind.i64.wrap (1 * 2 ^ (Go.bits .and .i64 a0 31).toNat)) = ji3 := shl_small hji3
    have hji3u : (IntKind.i64.wrap (2 ^ min (Go.bits .and .i64 a0 31).toNat 64)) = ji3 := by have h_ := hji3_; rw [Int.one_mul] at h_; exact h_
    have hji3v : (Go.bits .and .i64 a0 31) ≤ 64 → (IntKind.i64.wrap (2 ^ (Go.bits .and .i64 a0 31).toNat)) = ji3 := fun hle_ => by have h_ := hji3z hle_; rw [Int.one_mul] at h_; exact h_
    have hji3y : (wrap64 (1 * 2 ^ min (Go.bits .and .i64 a0 31).toNat 64)) = ji3 := (i64_w _).symm.trans hji3_
    have hji3x : (Go.bits .and .i64 a0 31) ≤ 64 → (wrap64 (1 * 2 ^ (Go.bits .and .i64 a0 31).toNat)) = ji3 := fun h_ => (i64_w _).symm.trans (hji3z h_)
    obtain rfl := Option.some.inj H
    go_enter Try.func109, Try.ntmps109
    go_wp2
    go_ret
    exact ⟨by first | rfl | (simp; done) | (simp only [← hji3] <;> (first | rfl | simp)) | (simp [*]; done), by repeat (first | exact Drawn0.refl _ | apply Drawn0.step)⟩
  · rw [if_neg c2] at H
    exact absurd H (by simp)


/-! ### spec_l1Has: function 96 -/
def spec_l1Has.f (a0 : Int) (a1 : Int) : Option (Bool) := (spec_l1In.f a1 0 30).bind fun t158 => (if t158 = true then ((spec_l1Bit.f a1).bind fun t159 => (some ((Go.bits .and .i64 a0 t159) != 0))) else (some false))
open Go.Proofs.Ytlallflpicgcmaa.Short2 in
set_option maxHeartbeats 8000000 in
set_option maxRecDepth 100000 in
theorem spec_l1Has.calls (a0 : Int) (a1 : Int) (r : Bool) (w : World) (h : spec_l1Has.f a0 a1 = some r) :
  Calls Try.prog 96 #[.int .i64 a0, .int .i64 a1] w fun e w' => e = .returned (.bool r) ∧ Drawn0 w w' := by
 have H : ((spec_l1In.f a1 0 30).bind fun t158 => (if t158 = true then ((spec_l1Bit.f a1).bind fun t159 => (some ((Go.bits .and .i64 a0 t159) != 0))) else (some false))) = some r := h; clear h; replace H := Option.bind_eq_some_iff.mp H; obtain ⟨t158, A30, H⟩ := H; replace H : (if t158 = true then ((spec_l1Bit.f a1).bind fun t159 => (some ((Go.bits .and .i64 a0 t159) != 0))) else (some false)) = some r := H; have A3 := Aside0.mk A30; clear A30
 by_cases c4 : t158 = true
 ·subst c4
  have H1 : ((spec_l1Bit.f a1).bind fun t159 => (some ((Go.bits .and .i64 a0 t159) != 0))) = some r := by rw [if_pos rfl] at H; exact H
  clear H; have H := H1; clear H1; replace H := Option.bind_eq_some_iff.mp H; obtain ⟨t159, A50, H⟩ := H; replace H : (some ((Go.bits .and .i64 a0 t159) != 0)) = some r := H; have A5 := Aside0.mk A50; clear A50; obtain rfl := Option.some.inj H
  go_enter Try.func96, Try.ntmps96
  go_wp2_with (first | ((with_reducible refine gate_callee (f := 58) rfl ?_); refine goesL_ (some 6) rfl rfl Try.func58 (by kernel_rfl) rfl #[.int .i64 a1, .int .i64 0, .int .i64 30] rfl (by (try simp only [m3]); first | done | rfl | (simp only [d2]; rfl)) ?_; (with_reducible refine (spec_l1In.calls a1 0 30 true _ A3.out).mono ?_); rintro e w' ⟨rfl, ⟨nd, rfl⟩⟩; refine ⟨_, rfl, ?_⟩) | (go_at_call 109; (with_reducible refine (spec_l1Bit.calls a1 t159 _ A5.out).mono ?_); rintro e w' ⟨rfl, ⟨nd, rfl⟩⟩))
  go_ret; exact ⟨by first | rfl | (simp; done) | (simp [*]; done), by repeat (first | exact Drawn0.refl _ | apply Drawn0.step)⟩
 ·replace c4 := Bool.eq_false_iff.mpr c4; subst c4
  have H1 : (some false) = some r := by rw [if_neg (show ¬ (false = true) by decide)] at H; exact H
  clear H; have H := H1; clear H1; obtain rfl := Option.some.inj H
  go_enter Try.func96, Try.ntmps96
  go_wp2_with (first | ((with_reducible refine gate_callee (f := 58) rfl ?_); refine goesL_ (some 6) rfl rfl Try.func58 (by kernel_rfl) rfl #[.int .i64 a1, .int .i64 0, .int .i64 30] rfl (by (try simp only [m3]); first | done | rfl | (simp only [d2]; rfl)) ?_; (with_reducible refine (spec_l1In.calls a1 0 30 false _ A3.out).mono ?_); rintro e w' ⟨rfl, ⟨nd, rfl⟩⟩; refine ⟨_, rfl, ?_⟩))
  go_ret; exact ⟨by first | rfl | (simp; done) | (simp [*]; done), by repeat (first | exact Drawn0.refl _ | apply Drawn0.step)⟩


/-! ### spec_l3At: function 97 -/
def spec_l3At.f (l0_0 : List Int) (l0_1 : List Int) (a1 : Int) : Option (Int) := if a1 < (l0_0.length : Int) then (if 0 ≤ a1 then (some (rd l0_0 a1)) else (none)) else (if (l0_1.length : Int) = 0 then (none) else (if 0 ≤ (Int.tmod (wrap64 (a1 - (l0_0.length : Int))) (l0_1.length : Int)) then (if (Int.tmod (wrap64 (a1 - (l0_0.length : Int))) (l0_1.length : Int)) < (l0_1.length : Int) then (some (rd l0_1 (Int.tmod (wrap64 (a1 - (l0_0.length : Int))) (l0_1.length : Int)))) else (none)) else (none)))
open Go.Proofs.Ytlallflpicgcmaa.Short2 in
set_option maxHeartbeats 8000000 in
set_option maxRecDepth 100000 in
theorem spec_l3At.calls (A0_0 : Option Addr) (c0_0 : Nat) (l0_0 : List Int) (A0_1 : Option Addr) (c0_1 : Nat) (l0_1 : List Int) (a1 : Int) (r : Int) (w : World) (hr0_0 : Kd.C (Kd.int .i64) w A0_0 l0_0.length l0_0) (hc0_0 : l0_0.length ≤ c0_0) (hr0_1 : Kd.C (Kd.int .i64) w A0_1 l0_1.length l0_1) (hc0_1 : l0_1.length ≤ c0_1) (h : spec_l3At.f l0_0 l0_1 a1 = some r) :
  Calls Try.prog 97 #[.agg #[.slice A0_0 l0_0.length c0_0, .slice A0_1 l0_1.length c0_1], .int .i64 a1] w fun e w' => e = .returned (.int .i64 r) ∧ Below w.heap.size w w' := by
 have hu78 := Try.underlying78; have HR0_0 := Aside0.mk hr0_0; have HC0_0 := Aside0.mk hc0_0; clear hr0_0 hc0_0; have HR0_1 := Aside0.mk hr0_1; have HC0_1 := Aside0.mk hc0_1; clear hr0_1 hc0_1; have HB := Aside0.mk (Below.refl w.heap.size w); have H : (if a1 < (l0_0.length : Int) then (if 0 ≤ a1 then (some (rd l0_0 a1)) else (none)) else (if (l0_1.length : Int) = 0 then (none) else (if 0 ≤ (Int.tmod (wrap64 (a1 - (l0_0.length : Int))) (l0_1.length : Int)) then (if (Int.tmod (wrap64 (a1 - (l0_0.length : Int))) (l0_1.length : Int)) < (l0_1.length : Int) then (some (rd l0_1 (Int.tmod (wrap64 (a1 - (l0_0.length : Int))) (l0_1.length : Int)))) else (none)) else (none)))) = some r := h; clear h
 by_cases c3 : a1 < (l0_0.length : Int)
 ·rw [if_pos c3] at H; have c3b0 : decide (a1 < (l0_0.length : Int)) = true := decide_eq_true c3; clear c3
  by_cases c4 : 0 ≤ a1
  ·rw [if_pos c4] at H; have c4b0 : decide (0 ≤ a1) = true := decide_eq_true c4; clear c4; obtain rfl := Option.some.inj H
   go_enter Try.func97, Try.ntmps97
   go_wp2_with (first | ((with_reducible refine gate_dst (N := 2) rfl ?_); refine box_event ?hg (N := 2) ?hd (cs := #[.slice A0_0 l0_0.length c0_0, .slice A0_1 l0_1.length c0_1]) (t := 78) ?hr ?_; (case hd => rfl); (case hg => rfl); (case hr => first | (go_simp; done) | (go_simp; rfl)); intro gb160 hg w5 hbox hb; have BK160 := Aside0.mk (hbox); have GW160 := xG HB hg; have GE160 := xG HB hg; replace HB := xS HB hb; clear hb hbox hg; have hcz6_0 : w5.cell? ⟨gb160, 0, none⟩ = some (.slice A0_0 l0_0.length c0_0) := b1 BK160 0; have hcz6_1 : w5.cell? ⟨gb160, 1, none⟩ = some (.slice A0_1 l0_1.length c0_1) := b1 BK160 1; have hfz6_0 := blk_frozen BK160.out 0; have hfz6_1 := blk_frozen BK160.out 1; have p161 : 0 ≤ (a1 : Int) := oD; have q161 : a1 < (l0_0.length : Int) := oD; obtain ⟨ad161, e161, hx161_0⟩ := Kd.at_int HR0_0.out a1 p161 q161; cases e161; replace hx161_0 := cT HB hx161_0; replace p161 := eq_true p161; replace q161 := eq_true q161))
   repeat (go_quiet (first | ((with_reducible refine gate_dst (N := 2) rfl ?_); refine box_event ?hg (N := 2) ?hd (cs := #[.slice A0_0 l0_0.length c0_0, .slice A0_1 l0_1.length c0_1]) (t := 78) ?hr ?_; (case hd => rfl); (case hg => rfl); (case hr => first | (go_simp; done) | (go_simp; rfl)); intro gb160 hg w5 hbox hb; have BK160 := Aside0.mk (hbox); have GW160 := xG HB hg; have GE160 := xG HB hg; replace HB := xS HB hb; clear hb hbox hg; have hcz6_0 : w5.cell? ⟨gb160, 0, none⟩ = some (.slice A0_0 l0_0.length c0_0) := b1 BK160 0; have hcz6_1 : w5.cell? ⟨gb160, 1, none⟩ = some (.slice A0_1 l0_1.length c0_1) := b1 BK160 1; have hfz6_0 := blk_frozen BK160.out 0; have hfz6_1 := blk_frozen BK160.out 1; have p161 : 0 ≤ (a1 : Int) := oD; have q161 : a1 < (l0_0.length : Int) := oD; obtain ⟨ad161, e161, hx161_0⟩ := Kd.at_int HR0_0.out a1 p161 q161; cases e161; replace hx161_0 := cT HB hx161_0; replace p161 := eq_true p161; replace q161 := eq_true q161)); try go_wp2_with (first | ((with_reducible refine gate_dst (N := 2) rfl ?_); refine box_event ?hg (N := 2) ?hd (cs := #[.slice A0_0 l0_0.length c0_0, .slice A0_1 l0_1.length c0_1]) (t := 78) ?hr ?_; (case hd => rfl); (case hg => rfl); (case hr => first | (go_simp; done) | (go_simp; rfl)); intro gb160 hg w5 hbox hb; have BK160 := Aside0.mk (hbox); have GW160 := xG HB hg; have GE160 := xG HB hg; replace HB := xS HB hb; clear hb hbox hg; have hcz6_0 : w5.cell? ⟨gb160, 0, none⟩ = some (.slice A0_0 l0_0.length c0_0) := b1 BK160 0; have hcz6_1 : w5.cell? ⟨gb160, 1, none⟩ = some (.slice A0_1 l0_1.length c0_1) := b1 BK160 1; have hfz6_0 := blk_frozen BK160.out 0; have hfz6_1 := blk_frozen BK160.out 1; have p161 : 0 ≤ (a1 : Int) := oD; have q161 : a1 < (l0_0.length : Int) := oD; obtain ⟨ad161, e161, hx161_0⟩ := Kd.at_int HR0_0.out a1 p161 q161; cases e161; replace hx161_0 := cT HB hx161_0; replace p161 := eq_true p161; replace q161 := eq_true q161)))
   go_ret; exact ⟨by first | rfl | (simp [errW_none, errW_some] <;> rfl) | (simp [*, errW_none, errW_some] <;> rfl), by repeat (first | (with_reducible first | exact HB.out | apply below_alloc | apply pw_below_drewN | apply below_drew1 | refine below_set ?_ GE160.out) | exact HB.out)⟩
  ·rw [if_neg c4] at H; exact absurd H (by simp)
 ·rw [if_neg c3] at H; have c3b0 : decide (a1 < (l0_0.length : Int)) = false := decide_eq_false c3; clear c3
  by_cases c7 : (l0_1.length : Int) = 0
  ·rw [if_pos c7] at H; exact absurd H (by simp)
  ·rw [if_neg c7] at H; have c7b0 : ((l0_1.length : Int) == 0) = false := beq_eq_false_iff_ne.mpr c7; have c7b1 : ((l0_1.length : Int) != 0) = true := bne_iff_ne.mpr c7; have c7b2 : ¬ (l0_1 = []) := fun h_ => c7 (by rw [h_]; rfl); obtain ⟨ji8, hji8⟩ : ∃ j_ : Int, (Int.tmod (wrap64 (a1 - (l0_0.length : Int))) (l0_1.length : Int)) = j_ := ⟨_, rfl⟩
   replace H : (if 0 ≤ (ji8) then (if (ji8) < (l0_1.length : Int) then (some (rd l0_1 (ji8))) else (none)) else (none)) = some r := by first | (rw [hji8] at H; exact H) | (simp only [hji8] at H ⊢; exact H)
   by_cases c9 : 0 ≤ (ji8)
   ·rw [if_pos c9] at H; have c9b0 : decide (0 ≤ (ji8)) = true := decide_eq_true c9; clear c9
    by_cases c10 : (ji8) < (l0_1.length : Int)
    ·rw [if_pos c10] at H; have c10b0 : decide ((ji8) < (l0_1.length : Int)) = true := decide_eq_true c10; clear c10; obtain rfl := Option.some.inj H
     go_enter Try.func97, Try.ntmps97
     go_wp2_with (first | ((with_reducible refine gate_dst (N := 2) rfl ?_); refine box_event ?hg (N := 2) ?hd (cs := #[.slice A0_0 l0_0.length c0_0, .slice A0_1 l0_1.length c0_1]) (t := 78) ?hr ?_; (case hd => rfl); (case hg => rfl); (case hr => first | (go_simp; done) | (go_simp; rfl)); intro gb160 hg w11 hbox hb; have BK160 := Aside0.mk (hbox); have GW160 := xG HB hg; have GE160 := xG HB hg; replace HB := xS HB hb; clear hb hbox hg; have hcz12_0 : w11.cell? ⟨gb160, 0, none⟩ = some (.slice A0_0 l0_0.length c0_0) := b1 BK160 0; have hcz12_1 : w11.cell? ⟨gb160, 1, none⟩ = some (.slice A0_1 l0_1.length c0_1) := b1 BK160 1; have hfz12_0 := blk_frozen BK160.out 0; have hfz12_1 := blk_frozen BK160.out 1; have p162 : 0 ≤ ((ji8) : Int) := oD; have q162 : (ji8) < (l0_1.length : Int) := oD; obtain ⟨ad162, e162, hx162_0⟩ := Kd.at_int HR0_1.out (ji8) p162 q162; cases e162; replace hx162_0 := cT HB hx162_0; replace p162 := eq_true p162; replace q162 := eq_true q162))
     repeat (go_quiet (first | ((with_reducible refine gate_dst (N := 2) rfl ?_); refine box_event ?hg (N := 2) ?hd (cs := #[.slice A0_0 l0_0.length c0_0, .slice A0_1 l0_1.length c0_1]) (t := 78) ?hr ?_; (case hd => rfl); (case hg => rfl); (case hr => first | (go_simp; done) | (go_simp; rfl)); intro gb160 hg w11 hbox hb; have BK160 := Aside0.mk (hbox); have GW160 := xG HB hg; have GE160 := xG HB hg; replace HB := xS HB hb; clear hb hbox hg; have hcz12_0 : w11.cell? ⟨gb160, 0, none⟩ = some (.slice A0_0 l0_0.length c0_0) := b1 BK160 0; have hcz12_1 : w11.cell? ⟨gb160, 1, none⟩ = some (.slice A0_1 l0_1.length c0_1) := b1 BK160 1; have hfz12_0 := blk_frozen BK160.out 0; have hfz12_1 := blk_frozen BK160.out 1; have p162 : 0 ≤ ((ji8) : Int) := oD; have q162 : (ji8) < (l0_1.length : Int) := oD; obtain ⟨ad162, e162, hx162_0⟩ := Kd.at_int HR0_1.out (ji8) p162 q162; cases e162; replace hx162_0 := cT HB hx162_0; replace p162 := eq_true p162; replace q162 := eq_true q162)); try go_wp2_with (first | ((with_reducible refine gate_dst (N := 2) rfl ?_); refine box_event ?hg (N := 2) ?hd (cs := #[.slice A0_0 l0_0.length c0_0, .slice A0_1 l0_1.length c0_1]) (t := 78) ?hr ?_; (case hd => rfl); (case hg => rfl); (case hr => first | (go_simp; done) | (go_simp; rfl)); intro gb160 hg w11 hbox hb; have BK160 := Aside0.mk (hbox); have GW160 := xG HB hg; have GE160 := xG HB hg; replace HB := xS HB hb; clear hb hbox hg; have hcz12_0 : w11.cell? ⟨gb160, 0, none⟩ = some (.slice A0_0 l0_0.length c0_0) := b1 BK160 0; have hcz12_1 : w11.cell? ⟨gb160, 1, none⟩ = some (.slice A0_1 l0_1.length c0_1) := b1 BK160 1; have hfz12_0 := blk_frozen BK160.out 0; have hfz12_1 := blk_frozen BK160.out 1; have p162 : 0 ≤ ((ji8) : Int) := oD; have q162 : (ji8) < (l0_1.length : Int) := oD; obtain ⟨ad162, e162, hx162_0⟩ := Kd.at_int HR0_1.out (ji8) p162 q162; cases e162; replace hx162_0 := cT HB hx162_0; replace p162 := eq_true p162; replace q162 := eq_true q162)))
     go_ret; exact ⟨by first | rfl | (simp [errW_none, errW_some] <;> rfl) | (simp only [← hji8]; first | rfl | (simp [errW_none, errW_some] <;> rfl)) | (simp [*, errW_none, errW_some] <;> rfl), by repeat (first | (with_reducible first | exact HB.out | apply below_alloc | apply pw_below_drewN | apply below_drew1 | refine below_set ?_ GE160.out) | exact HB.out)⟩
    ·rw [if_neg c10] at H; exact absurd H (by simp)
   ·rw [if_neg c9] at H; exact absurd H (by simp)

end Go.Proofs.Ytlallflpicgcmaa.MFnExactRunOk
