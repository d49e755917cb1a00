-- Written by a program of this session, out of Lean's print of the translation. Not trusted: Lean checks it.
import Derived.Test.YtlallflpicgcmaaMFnReach4x0
import Derived.Test.YtlallflpicgcmaaMFnReach4x1
import Derived.Test.YtlallflpicgcmaaMFnReach4x2
import Derived.Test.YtlallflpicgcmaaMFnReach4x3
namespace Go.Proofs.Ytlallflpicgcmaa.MFnReach4
open Go.RowKit Go.Proofs.YtlallflpicgcmaaW.PrintWords Go.Proofs.YtlallflpicgcmaaW.PrintLast Go.Proofs.YtlallflpicgcmaaW.PrintMore Go.Proofs.Ytlallflpicgcmaa.Short4
attribute [local go_sem] max2_int min2_int max_two min_two max_three min_three max_four min_four   -- for this text's walks alone
set_option linter.unusedVariables false
set_option linter.unusedSimpArgs false


/-! ### impl_AutoEdge: function 29 -/
def impl_AutoEdge.l0 : Nat → Int → Int → Int → List (S68) → Int → Int → Option (Bool × Bool)
 | 0, _, _, _, _, _, _ => none
 | k + 1, x1, x2, x3, x16, x17, x18 => if x18 < x17 then (if 0 ≤ x18 then (if x18 < (x16.length : Int) then (if ((rd_T68 x16 x18).f0) = x1 then (if ((rd_T68 x16 x18).f1) = x2 then (if ((rd_T68 x16 x18).f2) = x3 then (some ((rd_T68 x16 x18).f3, true)) else (impl_AutoEdge.l0 k x1 x2 x3 x16 x17 (wrap64 (x18 + 1)))) else (impl_AutoEdge.l0 k x1 x2 x3 x16 x17 (wrap64 (x18 + 1)))) else (impl_AutoEdge.l0 k x1 x2 x3 x16 x17 (wrap64 (x18 + 1)))) else (none)) else (none)) else (some (false, false))
def impl_AutoEdge.f (k : Nat) (a0_0 : Int) (a0_1 : Int) (a0_2 : Int) (l0_3 : List (S68)) (a1 : Int) (a2 : Int) (a3 : Int) : Option (Bool × Bool) := (impl_AutoOk.f k a0_0 a0_1 a0_2 l0_3).bind fun t146 => (if t146 = true then (impl_AutoEdge.l0 k a1 a2 a3 l0_3 (l0_3.length : Int) 0) else (some (false, false)))
theorem impl_AutoEdge.mono_l : ∀ k, (∀ y0 y1 y2 y3 y4 y5, LeO (impl_AutoEdge.l0 k y0 y1 y2 y3 y4 y5) (impl_AutoEdge.l0 (k + 1) y0 y1 y2 y3 y4 y5))
 | 0 => fun _ _ _ _ _ _ r h => by simp [impl_AutoEdge.l0] at h
 | k + 1 => by
  have ih0 := impl_AutoEdge.mono_l k
  ·intro y0 y1 y2 y3 y4 y5
   unfold impl_AutoEdge.l0
   repeat' first
   | (with_reducible exact ih0 _ _ _ _ _ _)
   | (with_reducible exact impl_AutoOk.mono _ _ _ _ _)
   | (with_reducible exact LeO.refl _)
   | (with_reducible exact LeO.none _)
   | (with_reducible refine LeO.ite ?_ ?_)
   | (with_reducible refine LeO.bind ?_ (fun _ => ?_))
   | exact ih0 _ _ _ _ _ _
   | exact impl_AutoOk.mono _ _ _ _ _
   | exact LeO.none _
   | refine LeO.ite ?_ ?_
   | refine LeO.bind ?_ (fun _ => ?_)
theorem impl_AutoEdge.mono : ∀ a0 a1 a2 a3 a4 a5 a6 k, LeO (impl_AutoEdge.f k a0 a1 a2 a3 a4 a5 a6) (impl_AutoEdge.f (k + 1) a0 a1 a2 a3 a4 a5 a6) := by
 intro a0 a1 a2 a3 a4 a5 a6 k
 have ih0 := impl_AutoEdge.mono_l k
 unfold impl_AutoEdge.f
 repeat' first
   | (with_reducible exact ih0 _ _ _ _ _ _)
   | (with_reducible exact impl_AutoOk.mono _ _ _ _ _)
   | (with_reducible exact LeO.refl _)
   | (with_reducible exact LeO.none _)
   | (with_reducible refine LeO.ite ?_ ?_)
   | (with_reducible refine LeO.bind ?_ (fun _ => ?_))
   | exact ih0 _ _ _ _ _ _
   | exact impl_AutoOk.mono _ _ _ _ _
   | exact LeO.none _
   | refine LeO.ite ?_ ?_
   | refine LeO.bind ?_ (fun _ => ?_)
open Go.Proofs.Ytlallflpicgcmaa.Short2 in
set_option maxHeartbeats 8000000 in
set_option maxRecDepth 100000 in
theorem impl_AutoEdge.calls (k : Nat) (a0_0 : Int) (a0_1 : Int) (a0_2 : Int) (A0_3 : Option Addr) (c0_3 : Nat) (l0_3 : List (S68)) (a1 : Int) (a2 : Int) (a3 : Int) (r1 : Bool) (r2 : Bool) (w : World) (hr0_3 : Kd.C k68 w A0_3 l0_3.length l0_3) (hc0_3 : l0_3.length ≤ c0_3) (h : impl_AutoEdge.f k a0_0 a0_1 a0_2 l0_3 a1 a2 a3 = some (r1, r2)) :
  Calls Try.prog 29 #[.agg #[.int .i64 a0_0, .int .i64 a0_1, .int .i64 a0_2, .slice A0_3 l0_3.length c0_3], .int .i64 a1, .int .i64 a2, .int .i64 a3] w fun e w' => e = .returned (.tuple #[.bool r1, .bool r2]) ∧ Below w.heap.size w w' := by
 have hu24 := Try.underlying24; have hu68 := Try.underlying68; have HR0_3 := Aside0.mk hr0_3; have HC0_3 := Aside0.mk hc0_3; clear hr0_3 hc0_3; have HB := Aside0.mk (Below.refl w.heap.size w); have H : ((impl_AutoOk.f k a0_0 a0_1 a0_2 l0_3).bind fun t146 => (if t146 = true then (impl_AutoEdge.l0 k a1 a2 a3 l0_3 (l0_3.length : Int) 0) else (some (false, false)))) = some (r1, r2) := h; clear h; replace H := Option.bind_eq_some_iff.mp H; obtain ⟨t146, A50, H⟩ := H; replace H : (if t146 = true then (impl_AutoEdge.l0 k a1 a2 a3 l0_3 (l0_3.length : Int) 0) else (some (false, false))) = some (r1, r2) := H; have A5 := Aside0.mk A50; clear A50
 by_cases c6 : t146 = true
 ·subst c6
  have H1 : (impl_AutoEdge.l0 k a1 a2 a3 l0_3 (l0_3.length : Int) 0) = some (r1, r2) := by rw [if_pos rfl] at H; exact H
  clear H; have H := H1; clear H1; have H' := Aside0.mk H; clear H
  go_enter Try.func29, Try.ntmps29
  go_wp2_with (first | ((with_reducible refine gate_dst (N := 4) rfl ?_); refine box_event ?hg (N := 4) ?hd (cs := #[.int .i64 a0_0, .int .i64 a0_1, .int .i64 a0_2, .slice A0_3 l0_3.length c0_3]) (t := 24) ?hr ?_; (case hd => rfl); (case hg => rfl); (case hr => first | (go_simp; done) | (go_simp; rfl)); intro gb145 hg w7 hbox hb; have BK145 := Aside0.mk (hbox); have GW145 := xG HB hg; have GE145 := xG HB hg; replace HB := xS HB hb; clear hb hbox hg; have hcz8_0 : w7.cell? ⟨gb145, 0, none⟩ = some (.int .i64 a0_0) := b1 BK145 0; have hcz8_1 : w7.cell? ⟨gb145, 1, none⟩ = some (.int .i64 a0_1) := b1 BK145 1; have hcz8_2 : w7.cell? ⟨gb145, 2, none⟩ = some (.int .i64 a0_2) := b1 BK145 2; have hcz8_3 : w7.cell? ⟨gb145, 3, none⟩ = some (.slice A0_3 l0_3.length c0_3) := b1 BK145 3; have hfz8_0 := blk_frozen BK145.out 0; have hfz8_1 := blk_frozen BK145.out 1; have hfz8_2 := blk_frozen BK145.out 2; have hfz8_3 := blk_frozen BK145.out 3) | ((with_reducible refine gate_callee (f := 22) rfl ?_); refine goesL_ (some 13) rfl rfl Try.func22 (by kernel_rfl) rfl #[.agg #[.int .i64 a0_0, .int .i64 a0_1, .int .i64 a0_2, .slice A0_3 l0_3.length c0_3]] rfl (by (try simp only [m3]); first | done | rfl | (simp only [d2]; rfl)) ?_; (with_reducible refine (impl_AutoOk.calls k a0_0 a0_1 a0_2 _ _ l0_3 true _ ?side1 ?side2 A5.out).mono ?_); (case side1 => exact zC (Kd.C_below HR0_3.out HB.out)); (case side2 => exact HC0_3.out); rintro e w9 ⟨rfl, hb⟩; refine ⟨_, rfl, ?_⟩; replace BK145 := xB BK145 hb; replace HB := xS HB hb; (try clear hb); (try clear hb2); (try clear hk); (try clear hi); have hcz10_0 : w9.cell? ⟨gb145, 0, none⟩ = some (.int .i64 a0_0) := b1 BK145 0; have hcz10_1 : w9.cell? ⟨gb145, 1, none⟩ = some (.int .i64 a0_1) := b1 BK145 1; have hcz10_2 : w9.cell? ⟨gb145, 2, none⟩ = some (.int .i64 a0_2) := b1 BK145 2; have hcz10_3 : w9.cell? ⟨gb145, 3, none⟩ = some (.slice A0_3 l0_3.length c0_3) := b1 BK145 3; have hfz10_0 := blk_frozen BK145.out 0; have hfz10_1 := blk_frozen BK145.out 1; have hfz10_2 := blk_frozen BK145.out 2; have hfz10_3 := blk_frozen BK145.out 3))
  go_loopg [18] k (fun kq v18 w' => ∃ (x18_1 : Int), v18 = .int .i64 x18_1 ∧ Aside0 (impl_AutoEdge.l0 kq a1 a2 a3 l0_3 (l0_3.length : Int) x18_1 = some (r1, r2)) ∧ Aside0 (kq ≤ k) ∧ Aside0 (w'.heap[gb145]? = some (.cells #[.int .i64 a0_0, .int .i64 a0_1, .int .i64 a0_2, (.slice A0_3 l0_3.length c0_3)] 24 (0, 0))) ∧ Aside0 (Below w.heap.size w w'))
  case atStart => exact ⟨(0), (by first | rfl | (simp; done) | (simp [*]; done) | (rw [Int.tmod_eq_emod_of_nonneg (Int.natCast_nonneg _)]; done)), H', ⟨Nat.le_refl _⟩, ⟨zB BK145.out⟩, ⟨zS HB.out⟩⟩
  case round =>
   clear H'
   try clear c2
   try clear p2
   try clear c6
   try clear hcz10_0
   try clear hcz10_1
   try clear hcz10_2
   try clear hcz10_3
   try clear hcz8_0
   try clear hcz8_1
   try clear hcz8_2
   try clear hcz8_3
   try clear hfz10_0
   try clear hfz10_1
   try clear hfz10_2
   try clear hfz10_3
   try clear hfz8_0
   try clear hfz8_1
   try clear hfz8_2
   try clear hfz8_3
   obtain ⟨x18_1, rfl, HA, HK1, BK145, HB⟩ := hrel
   cases gk with
   | zero => exact absurd HA.out (by simp [impl_AutoEdge.l0])
   | succ k1 =>
    have H := HA.out; clear HA; simp only [impl_AutoEdge.l0] at H
    by_cases c11 : x18_1 < (l0_3.length : Int)
    ·rw [if_pos c11] at H; have c11b0 : decide (x18_1 < (l0_3.length : Int)) = true := decide_eq_true c11; clear c11
     by_cases c12 : 0 ≤ x18_1
     ·rw [if_pos c12] at H; have c12b0 : decide (0 ≤ x18_1) = true := decide_eq_true c12; clear c12
      by_cases c13 : x18_1 < (l0_3.length : Int)
      ·rw [if_pos c13] at H; have c13b0 : decide (x18_1 < (l0_3.length : Int)) = true := decide_eq_true c13; clear c13
       by_cases c14 : ((rd_T68 l0_3 x18_1).f0) = a1
       ·rw [if_pos c14] at H; have c14b0 : (((rd_T68 l0_3 x18_1).f0) == a1) = true := beq_iff_eq.mpr c14; have c14b1 : (((rd_T68 l0_3 x18_1).f0) != a1) = false := bne_eq_false_iff_eq.mpr c14; clear c14
        by_cases c15 : ((rd_T68 l0_3 x18_1).f1) = a2
        ·rw [if_pos c15] at H; have c15b0 : (((rd_T68 l0_3 x18_1).f1) == a2) = true := beq_iff_eq.mpr c15; have c15b1 : (((rd_T68 l0_3 x18_1).f1) != a2) = false := bne_eq_false_iff_eq.mpr c15; clear c15
         by_cases c16 : ((rd_T68 l0_3 x18_1).f2) = a3
         ·rw [if_pos c16] at H; have c16b0 : (((rd_T68 l0_3 x18_1).f2) == a3) = true := beq_iff_eq.mpr c16; have c16b1 : (((rd_T68 l0_3 x18_1).f2) != a3) = false := bne_eq_false_iff_eq.mpr c16; clear c16; simp only [Option.some.injEq, Prod.mk.injEq] at H; obtain ⟨rfl, rfl⟩ := H; have p147 : 0 ≤ (x18_1 : Int) := oD; have q147 : x18_1 < (l0_3.length : Int) := oD; obtain ⟨ad147, e147, hx147_0, hx147_1, hx147_2, hx147_3⟩ := at_T68 HR0_3.out x18_1 p147 q147
          cases e147
          replace hx147_0 := cT HB hx147_0; replace hx147_1 := cT HB hx147_1; replace hx147_2 := cT HB hx147_2; replace hx147_3 := cT HB hx147_3; replace p147 := eq_true p147; replace q147 := eq_true q147
          go_wp2_with (first | ((with_reducible refine gate_dst (N := 11) rfl ?_); refine box_event ?hg (N := 11) ?hd (cs := #[.int .i64 0, .int .i64 0, .int .i64 0, .bool false]) (t := 68) ?hr ?_; (case hd => rfl); (case hg => rfl); (case hr => first | (go_simp; done) | (go_simp; rfl)); intro gb148 hg w17 hbox hb; have BK148 := Aside0.mk (hbox); have GW148 := xG HB hg; have GE148 := xG HB hg; replace HB := xS HB hb; have NB145_148 := xN BK145 hg; have NB148_145 := xM BK145 hg; replace BK145 := xB BK145 hb; clear hb hbox hg; have hnb18 := NB148_145.out; have hnc18 := NB145_148.out; have hcz19_0 : w17.cell? ⟨gb148, 0, none⟩ = some (.int .i64 0) := b1 BK148 0; have hcz19_1 : w17.cell? ⟨gb148, 1, none⟩ = some (.int .i64 0) := b1 BK148 1; have hcz19_2 : w17.cell? ⟨gb148, 2, none⟩ = some (.int .i64 0) := b1 BK148 2; have hcz19_3 : w17.cell? ⟨gb148, 3, none⟩ = some (.bool false) := b1 BK148 3; have hfz19_0 := blk_frozen BK148.out 0; have hfz19_1 := blk_frozen BK148.out 1; have hfz19_2 := blk_frozen BK148.out 2; have hfz19_3 := blk_frozen BK148.out 3))
          go_ret2; exact ⟨by first | rfl | (simp [errW_none, errW_some] <;> rfl) | (simp [*, errW_none, errW_some] <;> rfl), by repeat (first | (with_reducible first | exact HB.out | apply below_alloc | apply pw_below_drewN | apply below_drew1 | refine below_set ?_ GE145.out | refine below_set ?_ GE148.out) | exact HB.out)⟩
         ·rw [if_neg c16] at H; have c16b0 : (((rd_T68 l0_3 x18_1).f2) == a3) = false := beq_eq_false_iff_ne.mpr c16; have c16b1 : (((rd_T68 l0_3 x18_1).f2) != a3) = true := bne_iff_ne.mpr c16; have H' := Aside0.mk H; clear H; have p147 : 0 ≤ (x18_1 : Int) := oD; have q147 : x18_1 < (l0_3.length : Int) := oD; obtain ⟨ad147, e147, hx147_0, hx147_1, hx147_2, hx147_3⟩ := at_T68 HR0_3.out x18_1 p147 q147
          cases e147
          replace hx147_0 := cT HB hx147_0; replace hx147_1 := cT HB hx147_1; replace hx147_2 := cT HB hx147_2; replace hx147_3 := cT HB hx147_3; replace p147 := eq_true p147; replace q147 := eq_true q147
          go_wp2_with (first | ((with_reducible refine gate_dst (N := 11) rfl ?_); refine box_event ?hg (N := 11) ?hd (cs := #[.int .i64 0, .int .i64 0, .int .i64 0, .bool false]) (t := 68) ?hr ?_; (case hd => rfl); (case hg => rfl); (case hr => first | (go_simp; done) | (go_simp; rfl)); intro gb148 hg w20 hbox hb; have BK148 := Aside0.mk (hbox); have GW148 := xG HB hg; have GE148 := xG HB hg; replace HB := xS HB hb; have NB145_148 := xN BK145 hg; have NB148_145 := xM BK145 hg; replace BK145 := xB BK145 hb; clear hb hbox hg; have hnb21 := NB148_145.out; have hnc21 := NB145_148.out; have hcz22_0 : w20.cell? ⟨gb148, 0, none⟩ = some (.int .i64 0) := b1 BK148 0; have hcz22_1 : w20.cell? ⟨gb148, 1, none⟩ = some (.int .i64 0) := b1 BK148 1; have hcz22_2 : w20.cell? ⟨gb148, 2, none⟩ = some (.int .i64 0) := b1 BK148 2; have hcz22_3 : w20.cell? ⟨gb148, 3, none⟩ = some (.bool false) := b1 BK148 3; have hfz22_0 := blk_frozen BK148.out 0; have hfz22_1 := blk_frozen BK148.out 1; have hfz22_2 := blk_frozen BK148.out 2; have hfz22_3 := blk_frozen BK148.out 3))
          go_roundg k1
          case measure => have := HK1.out; omega
          case rel => exact ⟨(wrap64 (x18_1 + 1)), (by first | rfl | (simp; done) | (simp [*]; done) | (rw [Int.tmod_eq_emod_of_nonneg (Int.natCast_nonneg _)]; done)), H', ⟨by have := HK1.out; omega⟩, ⟨zB BK145.out⟩, ⟨zS HB.out⟩⟩
        ·rw [if_neg c15] at H; have c15b0 : (((rd_T68 l0_3 x18_1).f1) == a2) = false := beq_eq_false_iff_ne.mpr c15; have c15b1 : (((rd_T68 l0_3 x18_1).f1) != a2) = true := bne_iff_ne.mpr c15; have H' := Aside0.mk H; clear H; have p147 : 0 ≤ (x18_1 : Int) := oD; have q147 : x18_1 < (l0_3.length : Int) := oD; obtain ⟨ad147, e147, hx147_0, hx147_1, hx147_2, hx147_3⟩ := at_T68 HR0_3.out x18_1 p147 q147
         cases e147
         replace hx147_0 := cT HB hx147_0; replace hx147_1 := cT HB hx147_1; replace hx147_2 := cT HB hx147_2; replace hx147_3 := cT HB hx147_3; replace p147 := eq_true p147; replace q147 := eq_true q147
         go_wp2_with (first | ((with_reducible refine gate_dst (N := 11) rfl ?_); refine box_event ?hg (N := 11) ?hd (cs := #[.int .i64 0, .int .i64 0, .int .i64 0, .bool false]) (t := 68) ?hr ?_; (case hd => rfl); (case hg => rfl); (case hr => first | (go_simp; done) | (go_simp; rfl)); intro gb148 hg w23 hbox hb; have BK148 := Aside0.mk (hbox); have GW148 := xG HB hg; have GE148 := xG HB hg; replace HB := xS HB hb; have NB145_148 := xN BK145 hg; have NB148_145 := xM BK145 hg; replace BK145 := xB BK145 hb; clear hb hbox hg; have hnb24 := NB148_145.out; have hnc24 := NB145_148.out; have hcz25_0 : w23.cell? ⟨gb148, 0, none⟩ = some (.int .i64 0) := b1 BK148 0; have hcz25_1 : w23.cell? ⟨gb148, 1, none⟩ = some (.int .i64 0) := b1 BK148 1; have hcz25_2 : w23.cell? ⟨gb148, 2, none⟩ = some (.int .i64 0) := b1 BK148 2; have hcz25_3 : w23.cell? ⟨gb148, 3, none⟩ = some (.bool false) := b1 BK148 3; have hfz25_0 := blk_frozen BK148.out 0; have hfz25_1 := blk_frozen BK148.out 1; have hfz25_2 := blk_frozen BK148.out 2; have hfz25_3 := blk_frozen BK148.out 3))
         go_roundg k1
         case measure => have := HK1.out; omega
         case rel => exact ⟨(wrap64 (x18_1 + 1)), (by first | rfl | (simp; done) | (simp [*]; done) | (rw [Int.tmod_eq_emod_of_nonneg (Int.natCast_nonneg _)]; done)), H', ⟨by have := HK1.out; omega⟩, ⟨zB BK145.out⟩, ⟨zS HB.out⟩⟩
       ·rw [if_neg c14] at H; have c14b0 : (((rd_T68 l0_3 x18_1).f0) == a1) = false := beq_eq_false_iff_ne.mpr c14; have c14b1 : (((rd_T68 l0_3 x18_1).f0) != a1) = true := bne_iff_ne.mpr c14; have H' := Aside0.mk H; clear H; have p147 : 0 ≤ (x18_1 : Int) := oD; have q147 : x18_1 < (l0_3.length : Int) := oD; obtain ⟨ad147, e147, hx147_0, hx147_1, hx147_2, hx147_3⟩ := at_T68 HR0_3.out x18_1 p147 q147
        cases e147
        replace hx147_0 := cT HB hx147_0; replace hx147_1 := cT HB hx147_1; replace hx147_2 := cT HB hx147_2; replace hx147_3 := cT HB hx147_3; replace p147 := eq_true p147; replace q147 := eq_true q147
        go_wp2_with (first | ((with_reducible refine gate_dst (N := 11) rfl ?_); refine box_event ?hg (N := 11) ?hd (cs := #[.int .i64 0, .int .i64 0, .int .i64 0, .bool false]) (t := 68) ?hr ?_; (case hd => rfl); (case hg => rfl); (case hr => first | (go_simp; done) | (go_simp; rfl)); intro gb148 hg w26 hbox hb; have BK148 := Aside0.mk (hbox); have GW148 := xG HB hg; have GE148 := xG HB hg; replace HB := xS HB hb; have NB145_148 := xN BK145 hg; have NB148_145 := xM BK145 hg; replace BK145 := xB BK145 hb; clear hb hbox hg; have hnb27 := NB148_145.out; have hnc27 := NB145_148.out; have hcz28_0 : w26.cell? ⟨gb148, 0, none⟩ = some (.int .i64 0) := b1 BK148 0; have hcz28_1 : w26.cell? ⟨gb148, 1, none⟩ = some (.int .i64 0) := b1 BK148 1; have hcz28_2 : w26.cell? ⟨gb148, 2, none⟩ = some (.int .i64 0) := b1 BK148 2; have hcz28_3 : w26.cell? ⟨gb148, 3, none⟩ = some (.bool false) := b1 BK148 3; have hfz28_0 := blk_frozen BK148.out 0; have hfz28_1 := blk_frozen BK148.out 1; have hfz28_2 := blk_frozen BK148.out 2; have hfz28_3 := blk_frozen BK148.out 3))
        go_roundg k1
        case measure => have := HK1.out; omega
        case rel => exact ⟨(wrap64 (x18_1 + 1)), (by first | rfl | (simp; done) | (simp [*]; done) | (rw [Int.tmod_eq_emod_of_nonneg (Int.natCast_nonneg _)]; done)), H', ⟨by have := HK1.out; omega⟩, ⟨zB BK145.out⟩, ⟨zS HB.out⟩⟩
      ·rw [if_neg c13] at H; exact absurd H (by simp)
     ·rw [if_neg c12] at H; exact absurd H (by simp)
    ·rw [if_neg c11] at H; have c11b0 : decide (x18_1 < (l0_3.length : Int)) = false := decide_eq_false c11; clear c11; simp only [Option.some.injEq, Prod.mk.injEq] at H; obtain ⟨rfl, rfl⟩ := H
     go_wp2
     go_ret2; exact ⟨by first | rfl | (simp [errW_none, errW_some] <;> rfl) | (simp [*, errW_none, errW_some] <;> rfl), by repeat (first | (with_reducible first | exact HB.out | apply below_alloc | apply pw_below_drewN | apply below_drew1 | refine below_set ?_ GE145.out) | exact HB.out)⟩
 ·replace c6 := Bool.eq_false_iff.mpr c6; subst c6
  have H1 : (some (false, false)) = some (r1, r2) := by rw [if_neg (show ¬ (false = true) by decide)] at H; exact H
  clear H; have H := H1; clear H1; simp only [Option.some.injEq, Prod.mk.injEq] at H; obtain ⟨rfl, rfl⟩ := H
  go_enter Try.func29, Try.ntmps29
  go_wp2_with (first | ((with_reducible refine gate_dst (N := 4) rfl ?_); refine box_event ?hg (N := 4) ?hd (cs := #[.int .i64 a0_0, .int .i64 a0_1, .int .i64 a0_2, .slice A0_3 l0_3.length c0_3]) (t := 24) ?hr ?_; (case hd => rfl); (case hg => rfl); (case hr => first | (go_simp; done) | (go_simp; rfl)); intro gb145 hg w29 hbox hb; have BK145 := Aside0.mk (hbox); have GW145 := xG HB hg; have GE145 := xG HB hg; replace HB := xS HB hb; clear hb hbox hg; have hcz30_0 : w29.cell? ⟨gb145, 0, none⟩ = some (.int .i64 a0_0) := b1 BK145 0; have hcz30_1 : w29.cell? ⟨gb145, 1, none⟩ = some (.int .i64 a0_1) := b1 BK145 1; have hcz30_2 : w29.cell? ⟨gb145, 2, none⟩ = some (.int .i64 a0_2) := b1 BK145 2; have hcz30_3 : w29.cell? ⟨gb145, 3, none⟩ = some (.slice A0_3 l0_3.length c0_3) := b1 BK145 3; have hfz30_0 := blk_frozen BK145.out 0; have hfz30_1 := blk_frozen BK145.out 1; have hfz30_2 := blk_frozen BK145.out 2; have hfz30_3 := blk_frozen BK145.out 3) | ((with_reducible refine gate_callee (f := 22) rfl ?_); refine goesL_ (some 13) rfl rfl Try.func22 (by kernel_rfl) rfl #[.agg #[.int .i64 a0_0, .int .i64 a0_1, .int .i64 a0_2, .slice A0_3 l0_3.length c0_3]] rfl (by (try simp only [m3]); first | done | rfl | (simp only [d2]; rfl)) ?_; (with_reducible refine (impl_AutoOk.calls k a0_0 a0_1 a0_2 _ _ l0_3 false _ ?side1 ?side2 A5.out).mono ?_); (case side1 => exact zC (Kd.C_below HR0_3.out HB.out)); (case side2 => exact HC0_3.out); rintro e w31 ⟨rfl, hb⟩; refine ⟨_, rfl, ?_⟩; replace BK145 := xB BK145 hb; replace HB := xS HB hb; (try clear hb); (try clear hb2); (try clear hk); (try clear hi)))
  go_ret2; exact ⟨by first | rfl | (simp [errW_none, errW_some] <;> rfl) | (simp [*, errW_none, errW_some] <;> rfl), by repeat (first | (with_reducible first | exact HB.out | apply below_alloc | apply pw_below_drewN | apply below_drew1 | refine below_set ?_ GE145.out) | exact HB.out)⟩

/-! ### impl_has: function 110 -/
def impl_has.f (a0 : Int) (a1 : Int) : Option (Bool) := if 0 ≤ (IntKind.u64.wrap (a1)) then (some ((Go.bits .and .i64 (shr .i64 a0 (IntKind.u64.wrap (a1))) 1) == 1)) else (none)
set_option maxHeartbeats 8000000 in
set_option maxRecDepth 100000 in
theorem impl_has.calls (a0 : Int) (a1 : Int) (r : Bool) (w : World) (h : impl_has.f a0 a1 = some r) :
    Calls Try.prog 110 #[.int .i64 a0, .int .i64 a1] w fun e w' => e = .returned (.bool r) ∧ Drawn0 w w' := by
  have H : (if 0 ≤ (IntKind.u64.wrap (a1)) then (some ((Go.bits .and .i64 (shr .i64 a0 (IntKind.u64.wrap (a1))) 1) == 1)) else (none)) = some r := h
  clear h
  obtain ⟨ji3, hji3⟩ : ∃ j_ : Int, (IntKind.u64.wrap (a1)) = j_ := ⟨_, rfl⟩
  replace H : (if 0 ≤ (ji3) then (some ((Go.bits .and .i64 (shr .i64 a0 (ji3)) 1) == 1)) else (none)) = some r := by first | (rw [hji3] at H; exact H) | (simp only [hji3] at H ⊢; exact H)
  by_cases c4 : 0 ≤ (ji3)
  · rw [if_pos c4] at H
    have c4b0 := eq_true c4
    have c4b1 : decide (0 ≤ (ji3)) = true := decide_eq_true c4
    clear c4
    obtain ⟨ji5, hji5⟩ : ∃ j_ : Int, (shr .i64 a0 (ji3)) = j_ := ⟨_, rfl⟩
    replace H : (some ((Go.bits .and .i64 (ji5) 1) == 1)) = some r := by first | (rw [hji5] at H; exact H) | (simp only [hji5] at H ⊢; exact H)
    have hji5_ : (a0 / 2 ^ min (ji3).toNat 64) = ji5 := hji5
    have hji5z : (ji3) ≤ 64 → (a0 / 2 ^ (ji3).toNat) = ji5 := shr_small hji5
    obtain rfl := Option.some.inj H
    go_enter Try.func110, Try.ntmps110
    go_wp2
    go_ret
    exact ⟨by first | rfl | (simp; done) | (simp only [← hji3, ← hji5] <;> (first | rfl | simp)) | (simp [*]; done), by repeat (first | exact Drawn0.refl _ | apply Drawn0.step)⟩
  · rw [if_neg c4] at H
    exact absurd H (by simp)


/-- A state of type 24 at block g of W; what its slices lead to came in by w0. -/
def IsS24 (w0 W : World) (g : Nat) (f0 : Int) (f1 : Int) (f2 : Int) (f3 : List (S68)) : Prop := ∃ A3 c3, W.heap[g]? = some (.cells #[.int .i64 f0, .int .i64 f1, .int .i64 f2, .slice A3 f3.length c3] 24 (0, 0)) ∧ w0.heap.size ≤ g ∧ Kd.C k68 w0 A3 f3.length f3
theorem IsS24.grown {w0 W : World} {g : Nat} {f0 : Int} {f1 : Int} {f2 : Int} {f3 : List (S68)} {W1 : World} {row : Option Nat} (h : IsS24 w0 W g f0 f1 f2 f3) (hw : W.grownBy W1 row) (hne : some g ≠ row) : IsS24 w0 W1 g f0 f1 f2 f3 := by
 obtain ⟨A3, c3, hb, hg, hr3⟩ := h
 exact ⟨A3, c3, blk_grown hb hw hne, hg, hr3⟩
theorem IsS24.own_neN {w0 W : World} {g : Nat} {f0 : Int} {f1 : Int} {f2 : Int} {f3 : List (S68)} {α : Type} {d : Kd α} {e : Nat} {base : Nat} {ok : Nat → Prop} {v : Value} {xs : List α} (h : IsS24 w0 W g f0 f1 f2 f3) (ho : Kd.N d e W base ok v xs) (ht : e ≠ 24) : some g ≠ v.ownBlock := by
 obtain ⟨A3, c3, hb, hg, hr3⟩ := h
 exact Kd.N_ne ho hb ht
theorem IsS24.fresh {w0 W : World} {g : Nat} {f0 : Int} {f1 : Int} {f2 : Int} {f3 : List (S68)} (h : IsS24 w0 W g f0 f1 f2 f3) : ∀ k, W.heap.size ≤ k → k ≠ g := by
 obtain ⟨A3, c3, hb, hg, hr3⟩ := h
 exact Kd.freshB hb
theorem IsS24.kept {w0 W : World} {g : Nat} {f0 : Int} {f1 : Int} {f2 : Int} {f3 : List (S68)} {W1 : World} {S : Nat → Prop} (h : IsS24 w0 W g f0 f1 f2 f3) (hk : Kept W W1 S) (hne : ¬ S g) : IsS24 w0 W1 g f0 f1 f2 f3 := by
 obtain ⟨A3, c3, hb, hg, hr3⟩ := h
 exact ⟨A3, c3, blk_kept hb hk hne, hg, hr3⟩
theorem IsS24.below {w0 W : World} {g : Nat} {f0 : Int} {f1 : Int} {f2 : Int} {f3 : List (S68)} {W1 : World} (h : IsS24 w0 W g f0 f1 f2 f3) (hw : Below W.heap.size W W1) : IsS24 w0 W1 g f0 f1 f2 f3 := h.grown (grown_of_below hw none) (by simp)
theorem IsS24.alloc {w0 W : World} {g : Nat} {f0 : Int} {f1 : Int} {f2 : Int} {f3 : List (S68)} (h : IsS24 w0 W g f0 f1 f2 f3) (o : Obj) : IsS24 w0 (W.alloc o) g f0 f1 f2 f3 := h.below (below_alloc (Below.refl _ _) o)
theorem IsS24.drewN {w0 W : World} {g : Nat} {f0 : Int} {f1 : Int} {f2 : Int} {f3 : List (S68)} (h : IsS24 w0 W g f0 f1 f2 f3) (m : Nat) : IsS24 w0 (W.drewN m) g f0 f1 f2 f3 := h
theorem IsS24.drew {w0 W : World} {g : Nat} {f0 : Int} {f1 : Int} {f2 : Int} {f3 : List (S68)} (h : IsS24 w0 W g f0 f1 f2 f3) : IsS24 w0 W.drew g f0 f1 f2 f3 := h
theorem IsS24.at_ {w0 W : World} {g : Nat} {f0 : Int} {f1 : Int} {f2 : Int} {f3 : List (S68)} {w' : World} {m : Nat} (hq : W.drewN m = w') (h : IsS24 w0 W g f0 f1 f2 f3) : IsS24 w0 w' g f0 f1 f2 f3 := by subst hq; exact IsS24.drewN h m
theorem IsS24.apart {w0 W : World} {g : Nat} {f0 : Int} {f1 : Int} {f2 : Int} {f3 : List (S68)} {α : Type} {d : Kd α} {e : Nat} {base : Nat} {ok : Nat → Prop} {v : Value} {xs : List α} (h : IsS24 w0 W g f0 f1 f2 f3) (ho : d.R e W base ok v xs) (ht : ∀ q, q ∈ e :: d.E → q ≠ 24) : d.R e W base (fun k => ok k ∧ k ≠ g) v xs := by
 obtain ⟨A3, c3, hb, hg, hr3⟩ := h
 exact Kd.R_types ho hb ht
theorem IsS24.own_ne {w0 W : World} {g : Nat} {f0 : Int} {f1 : Int} {f2 : Int} {f3 : List (S68)} {α : Type} {d : Kd α} {e : Nat} {base : Nat} {ok : Nat → Prop} {v : Value} {xs : List α} (h : IsS24 w0 W g f0 f1 f2 f3) (ho : d.R e W base ok v xs) (ht : e ≠ 24) : some g ≠ v.ownBlock := by
 obtain ⟨A3, c3, hb, hg, hr3⟩ := h
 exact Kd.R_ne ho hb ht
theorem IsS24.apartQ {w0 W : World} {g : Nat} {f0 : Int} {f1 : Int} {f2 : Int} {f3 : List (S68)} {α : Type} {d : Kd α} {e : Nat} {base : Nat} {ok : Nat → Prop} {v : Value} {xs : List α} (h : IsS24 w0 W g f0 f1 f2 f3) (ho : d.Q e W base ok v xs) (ht : ∀ q, q ∈ e :: d.E → q ≠ 24) : d.Q e W base (fun k => ok k ∧ k ≠ g) v xs := by
 obtain ⟨A3, c3, hb, hg, hr3⟩ := h
 exact Kd.Q_types ho hb ht
theorem IsS24.own_neQ {w0 W : World} {g : Nat} {f0 : Int} {f1 : Int} {f2 : Int} {f3 : List (S68)} {α : Type} {d : Kd α} {e : Nat} {base : Nat} {ok : Nat → Prop} {v : Value} {xs : List α} (h : IsS24 w0 W g f0 f1 f2 f3) (ho : d.Q e W base ok v xs) (ht : e ≠ 24) : some g ≠ v.ownBlock := by
 obtain ⟨A3, c3, hb, hg, hr3⟩ := h
 exact Kd.Q_ne ho hb ht
theorem IsS24.apartS {w0 W : World} {g : Nat} {f0 : Int} {f1 : Int} {f2 : Int} {f3 : List (S68)} {α : Type} {d : Kd α} {e : Nat} {base : Nat} {ok : Nat → Prop} {v : Value} {xs : List α} (h : IsS24 w0 W g f0 f1 f2 f3) (ho : d.S e W base ok v xs) (ht : ∀ q, q ∈ e :: d.E → q ≠ 24) : d.S e W base (fun k => ok k ∧ k ≠ g) v xs := by
 obtain ⟨A3, c3, hb, hg, hr3⟩ := h
 exact Kd.S_types ho hb ht
theorem IsS24.own_neS {w0 W : World} {g : Nat} {f0 : Int} {f1 : Int} {f2 : Int} {f3 : List (S68)} {α : Type} {d : Kd α} {e : Nat} {base : Nat} {ok : Nat → Prop} {v : Value} {xs : List α} (h : IsS24 w0 W g f0 f1 f2 f3) (ho : d.S e W base ok v xs) (ht : e ≠ 24) : some g ≠ v.ownBlock := by
 obtain ⟨A3, c3, hb, hg, hr3⟩ := h
 exact Kd.S_ne ho hb ht
theorem IsS24.lt {w0 W : World} {g : Nat} {f0 : Int} {f1 : Int} {f2 : Int} {f3 : List (S68)} (h : IsS24 w0 W g f0 f1 f2 f3) : g < W.heap.size := by
 obtain ⟨A3, c3, hb, hg, hr3⟩ := h
 exact blk_lt hb
theorem IsS24.ge {w0 W : World} {g : Nat} {f0 : Int} {f1 : Int} {f2 : Int} {f3 : List (S68)} (h : IsS24 w0 W g f0 f1 f2 f3) : w0.heap.size ≤ g := by
 obtain ⟨A3, c3, hb, hg, hr3⟩ := h
 exact hg
theorem IsS24.ne_blk {w0 W : World} {g : Nat} {f0 : Int} {f1 : Int} {f2 : Int} {f3 : List (S68)} {a : Nat} {cs : Array Value} {t : TypeId} {fr : Nat × Nat} (h : IsS24 w0 W g f0 f1 f2 f3) (hb2 : W.heap[a]? = some (.cells cs t fr)) (ht : t ≠ 24) : g ≠ a := by
 obtain ⟨A3, c3, hb, hg, hr3⟩ := h
 rintro rfl
 rw [hb] at hb2
 injection hb2 with hb2
 injection hb2 with _ ht2
 exact ht ht2.symm
theorem IsS24.far {w0 W : World} {g : Nat} {f0 : Int} {f1 : Int} {f2 : Int} {f3 : List (S68)} {p : Addr} (h : IsS24 w0 W g f0 f1 f2 f3) (hne : g ≠ p.block) (u : Value) : IsS24 w0 (W.setCell p u) g f0 f1 f2 f3 := by
 obtain ⟨A3, c3, hb, hg, hr3⟩ := h
 exact ⟨A3, c3, blk_far hb hne u, hg, hr3⟩
theorem cellS24_0 {W : World} {g : Nat} {A3 : Option Addr} {c3 : Nat} {f0 : Int} {f1 : Int} {f2 : Int} {f3 : List (S68)} (h : W.heap[g]? = some (.cells #[.int .i64 f0, .int .i64 f1, .int .i64 f2, .slice A3 f3.length c3] 24 (0, 0))) : W.cell? ⟨g, 0, none⟩ = some (.int .i64 f0) := (blk_cell h 0).trans rfl
theorem IsS24.set_0 {w0 W : World} {g : Nat} {f0 : Int} {f1 : Int} {f2 : Int} {f3 : List (S68)} (h : IsS24 w0 W g f0 f1 f2 f3) (x : Int) : IsS24 w0 (W.setCell ⟨g, 0, none⟩ (.int .i64 x)) g x f1 f2 f3 := by
 obtain ⟨A3, c3, hb, hg, hr3⟩ := h
 exact ⟨A3, c3, by simpa using blk_set hb 0 (.int .i64 x), hg, hr3⟩
theorem cellS24_1 {W : World} {g : Nat} {A3 : Option Addr} {c3 : Nat} {f0 : Int} {f1 : Int} {f2 : Int} {f3 : List (S68)} (h : W.heap[g]? = some (.cells #[.int .i64 f0, .int .i64 f1, .int .i64 f2, .slice A3 f3.length c3] 24 (0, 0))) : W.cell? ⟨g, 1, none⟩ = some (.int .i64 f1) := (blk_cell h 1).trans rfl
theorem IsS24.set_1 {w0 W : World} {g : Nat} {f0 : Int} {f1 : Int} {f2 : Int} {f3 : List (S68)} (h : IsS24 w0 W g f0 f1 f2 f3) (x : Int) : IsS24 w0 (W.setCell ⟨g, 1, none⟩ (.int .i64 x)) g f0 x f2 f3 := by
 obtain ⟨A3, c3, hb, hg, hr3⟩ := h
 exact ⟨A3, c3, by simpa using blk_set hb 1 (.int .i64 x), hg, hr3⟩
theorem cellS24_2 {W : World} {g : Nat} {A3 : Option Addr} {c3 : Nat} {f0 : Int} {f1 : Int} {f2 : Int} {f3 : List (S68)} (h : W.heap[g]? = some (.cells #[.int .i64 f0, .int .i64 f1, .int .i64 f2, .slice A3 f3.length c3] 24 (0, 0))) : W.cell? ⟨g, 2, none⟩ = some (.int .i64 f2) := (blk_cell h 2).trans rfl
theorem IsS24.set_2 {w0 W : World} {g : Nat} {f0 : Int} {f1 : Int} {f2 : Int} {f3 : List (S68)} (h : IsS24 w0 W g f0 f1 f2 f3) (x : Int) : IsS24 w0 (W.setCell ⟨g, 2, none⟩ (.int .i64 x)) g f0 f1 x f3 := by
 obtain ⟨A3, c3, hb, hg, hr3⟩ := h
 exact ⟨A3, c3, by simpa using blk_set hb 2 (.int .i64 x), hg, hr3⟩
theorem cellS24_3 {W : World} {g : Nat} {A3 : Option Addr} {c3 : Nat} {f0 : Int} {f1 : Int} {f2 : Int} {f3 : List (S68)} (h : W.heap[g]? = some (.cells #[.int .i64 f0, .int .i64 f1, .int .i64 f2, .slice A3 f3.length c3] 24 (0, 0))) : W.cell? ⟨g, 3, none⟩ = some (.slice A3 f3.length c3) := (blk_cell h 3).trans rfl
theorem IsS24.new (w0 W : World) (A3 : Option Addr) (c3 : Nat) (f0 : Int) (f1 : Int) (f2 : Int) (f3 : List (S68)) (hB : Below w0.heap.size w0 W) (hr3 : Kd.C k68 w0 A3 f3.length f3) : IsS24 w0 (W.alloc (.cells #[.int .i64 f0, .int .i64 f1, .int .i64 f2, .slice A3 f3.length c3] 24)) W.heap.size f0 f1 f2 f3 := ⟨A3, c3, by simpa using heap_alloc_new W _, hB.size, hr3⟩

/-! ### impl_Auto_step: function 79 -/
def impl_Auto_step.l0 : Nat → Int → Int → Int → List (S68) → Int → Int → Int → Int → Int → List (S68) → Option (Int × Int × Int × Int)
 | 0, _, _, _, _, _, _, _, _, _, _ => none
 | k + 1, x1, x2, x7, x13, x14, x15, x1000, x1001, x1002, x1003 => if x15 < x14 then (if 0 ≤ x15 then (if x15 < (x13.length : Int) then (if ((rd_T68 x13 x15).f1) = x2 then ((impl_has.f x1 ((rd_T68 x13 x15).f0)).bind fun t151 => (if t151 = true then ((impl_only.f ((rd_T68 x13 x15).f2)).bind fun t152 => (impl_Auto_step.l0 k x1 x2 (Go.bits .or .i64 x7 t152) x13 x14 (wrap64 (x15 + 1)) x1000 x1001 x1002 x1003)) else (impl_Auto_step.l0 k x1 x2 x7 x13 x14 (wrap64 (x15 + 1)) x1000 x1001 x1002 x1003))) else (impl_Auto_step.l0 k x1 x2 x7 x13 x14 (wrap64 (x15 + 1)) x1000 x1001 x1002 x1003)) else (none)) else (none)) else (some (x7, x1000, x1001, x1002))
def impl_Auto_step.f (k : Nat) (s0_0 : Int) (s0_1 : Int) (s0_2 : Int) (s0_3 : List (S68)) (a1 : Int) (a2 : Int) : Option (Int × Int × Int × Int) := impl_Auto_step.l0 k a1 a2 0 s0_3 (s0_3.length : Int) 0 s0_0 s0_1 s0_2 s0_3
theorem impl_Auto_step.mono_l : ∀ k, (∀ y0 y1 y2 y3 y4 y5 y6 y7 y8 y9, LeO (impl_Auto_step.l0 k y0 y1 y2 y3 y4 y5 y6 y7 y8 y9) (impl_Auto_step.l0 (k + 1) y0 y1 y2 y3 y4 y5 y6 y7 y8 y9))
 | 0 => fun _ _ _ _ _ _ _ _ _ _ r h => by simp [impl_Auto_step.l0] at h
 | k + 1 => by
  have ih0 := impl_Auto_step.mono_l k
  ·intro y0 y1 y2 y3 y4 y5 y6 y7 y8 y9
   unfold impl_Auto_step.l0
   repeat' first
   | (with_reducible exact ih0 _ _ _ _ _ _ _ _ _ _)
   | (with_reducible exact LeO.refl _)
   | (with_reducible exact LeO.none _)
   | (with_reducible refine LeO.ite ?_ ?_)
   | (with_reducible refine LeO.bind ?_ (fun _ => ?_))
   | exact ih0 _ _ _ _ _ _ _ _ _ _
   | exact LeO.none _
   | refine LeO.ite ?_ ?_
   | refine LeO.bind ?_ (fun _ => ?_)
theorem impl_Auto_step.mono : ∀ a0 a1 a2 a3 a4 a5 k, LeO (impl_Auto_step.f k a0 a1 a2 a3 a4 a5) (impl_Auto_step.f (k + 1) a0 a1 a2 a3 a4 a5) := by
 intro a0 a1 a2 a3 a4 a5 k
 have ih0 := impl_Auto_step.mono_l k
 unfold impl_Auto_step.f
 repeat' first
   | (with_reducible exact ih0 _ _ _ _ _ _ _ _ _ _)
   | (with_reducible exact LeO.refl _)
   | (with_reducible exact LeO.none _)
   | (with_reducible refine LeO.ite ?_ ?_)
   | (with_reducible refine LeO.bind ?_ (fun _ => ?_))
   | exact ih0 _ _ _ _ _ _ _ _ _ _
   | exact LeO.none _
   | refine LeO.ite ?_ ?_
   | refine LeO.bind ?_ (fun _ => ?_)
open Go.Proofs.Ytlallflpicgcmaa.Short2 in
set_option maxHeartbeats 8000000 in
set_option maxRecDepth 100000 in
theorem impl_Auto_step.calls (k : Nat) (g : Nat) (s0_0 : Int) (s0_1 : Int) (s0_2 : Int) (s0_3 : List (S68)) (a1 : Int) (a2 : Int) (r1 : Int) (r2 : Int) (r3 : Int) (r4 : Int) (w0 w : World) (hI : IsS24 w0 w g s0_0 s0_1 s0_2 s0_3) (hB : Below w0.heap.size w0 w) (h : impl_Auto_step.f k s0_0 s0_1 s0_2 s0_3 a1 a2 = some (r1, r2, r3, r4)) :
  Calls Try.prog 79 #[.pointer (some ⟨g, 0, none⟩), .int .i64 a1, .int .i64 a2] w fun e w' => e = .returned (.int .i64 r1) ∧ IsS24 w0 w' g r2 r3 r4 s0_3 ∧ Below w0.heap.size w0 w' ∧ KeepBut w w' g none := by
 have hu68 := Try.underlying68; have HI0 := Aside0.mk hI; have HK := Aside0.mk (KeepBut.refl w g none); have HL := Aside0.mk hB.size; clear hI; have HW0 := Aside0.mk hB.size; have HB := Aside0.mk hB; clear hB; have H : (impl_Auto_step.l0 k a1 a2 0 s0_3 (s0_3.length : Int) 0 s0_0 s0_1 s0_2 s0_3) = some (r1, r2, r3, r4) := h; clear h; have H' := Aside0.mk H; clear H; obtain ⟨ASz4_3, cSz4_3, HGz4, hgz4, HSz4_3⟩ := HI0.out; have hcz4_0 := cellS24_0 HGz4; have hcz4_1 := cellS24_1 HGz4; have hcz4_2 := cellS24_2 HGz4; have hcz4_3 := cellS24_3 HGz4; have hfz4_0 := blk_frozen HGz4 0; have hfz4_1 := blk_frozen HGz4 1; have hfz4_2 := blk_frozen HGz4 2; clear HGz4 hgz4
 go_enter Try.func79, Try.ntmps79
 go_wp2
 go_loopg [7, 15] k (fun kq v7 v15 w' => ∃ (x7_1 : Int) (x15_1 : Int), v7 = .int .i64 x7_1 ∧ v15 = .int .i64 x15_1 ∧ Aside0 (impl_Auto_step.l0 kq a1 a2 x7_1 s0_3 (s0_3.length : Int) x15_1 s0_0 s0_1 s0_2 s0_3 = some (r1, r2, r3, r4)) ∧ Aside0 (kq ≤ k) ∧ Aside0 (IsS24 w0 w' g s0_0 s0_1 s0_2 s0_3) ∧ Aside0 (KeepBut w w' g none) ∧ Aside0 (Below w0.heap.size w0 w'))
 case atStart => exact ⟨(0), (0), (by first | rfl | (simp; done) | (simp [*]; done) | (rw [Int.tmod_eq_emod_of_nonneg (Int.natCast_nonneg _)]; done)), (by first | rfl | (simp; done) | (simp [*]; done) | (rw [Int.tmod_eq_emod_of_nonneg (Int.natCast_nonneg _)]; done)), H', ⟨Nat.le_refl _⟩, ⟨by repeat (first | (with_reducible first | exact HI0.out | apply IsS24.alloc | apply IsS24.drewN | apply IsS24.drew | apply IsS24.set_0 | apply IsS24.set_1 | apply IsS24.set_2) | exact HI0.out)⟩, ⟨by repeat (first | (with_reducible first | exact HK.out | apply KeepBut.set_ | apply keep_drewN | apply keep_drew | apply keep_alloc) | exact HK.out)⟩, ⟨by repeat (first | (with_reducible first | exact HB.out | apply below_alloc | apply pw_below_drewN | apply below_drew1 | refine below_set ?_ (IsS24.ge HI0.out)) | exact HB.out)⟩⟩
 case round =>
  clear H'
  try clear p2
  try clear hcz4_0
  try clear hcz4_1
  try clear hcz4_2
  try clear hcz4_3
  try clear hfz4_0
  try clear hfz4_1
  try clear hfz4_2
  obtain ⟨x7_1, x15_1, rfl, rfl, HA, HK1, HI0, HK, HB⟩ := hrel
  cases gk with
  | zero => exact absurd HA.out (by simp [impl_Auto_step.l0])
  | succ k1 =>
   have H := HA.out; clear HA; simp only [impl_Auto_step.l0] at H
   by_cases c5 : x15_1 < (s0_3.length : Int)
   ·rw [if_pos c5] at H; have c5b0 : decide (x15_1 < (s0_3.length : Int)) = true := decide_eq_true c5; clear c5
    by_cases c6 : 0 ≤ x15_1
    ·rw [if_pos c6] at H; have c6b0 : decide (0 ≤ x15_1) = true := decide_eq_true c6; clear c6
     by_cases c7 : x15_1 < (s0_3.length : Int)
     ·rw [if_pos c7] at H; have c7b0 : decide (x15_1 < (s0_3.length : Int)) = true := decide_eq_true c7; clear c7
      by_cases c8 : ((rd_T68 s0_3 x15_1).f1) = a2
      ·rw [if_pos c8] at H; have c8b0 : (((rd_T68 s0_3 x15_1).f1) == a2) = true := beq_iff_eq.mpr c8; have c8b1 : (((rd_T68 s0_3 x15_1).f1) != a2) = false := bne_eq_false_iff_eq.mpr c8; clear c8; replace H := Option.bind_eq_some_iff.mp H; obtain ⟨t151, A90, H⟩ := H; replace H : (if t151 = true then ((impl_only.f ((rd_T68 s0_3 x15_1).f2)).bind fun t152 => (impl_Auto_step.l0 k1 a1 a2 (Go.bits .or .i64 x7_1 t152) s0_3 (s0_3.length : Int) (wrap64 (x15_1 + 1)) s0_0 s0_1 s0_2 s0_3)) else (impl_Auto_step.l0 k1 a1 a2 x7_1 s0_3 (s0_3.length : Int) (wrap64 (x15_1 + 1)) s0_0 s0_1 s0_2 s0_3)) = some (r1, r2, r3, r4) := H; have A9 := Aside0.mk A90; clear A90
       by_cases c10 : t151 = true
       ·subst c10
        have H1 : ((impl_only.f ((rd_T68 s0_3 x15_1).f2)).bind fun t152 => (impl_Auto_step.l0 k1 a1 a2 (Go.bits .or .i64 x7_1 t152) s0_3 (s0_3.length : Int) (wrap64 (x15_1 + 1)) s0_0 s0_1 s0_2 s0_3)) = some (r1, r2, r3, r4) := by rw [if_pos rfl] at H; exact H
        clear H; have H := H1; clear H1; replace H := Option.bind_eq_some_iff.mp H; obtain ⟨t152, A110, H⟩ := H; replace H : (impl_Auto_step.l0 k1 a1 a2 (Go.bits .or .i64 x7_1 t152) s0_3 (s0_3.length : Int) (wrap64 (x15_1 + 1)) s0_0 s0_1 s0_2 s0_3) = some (r1, r2, r3, r4) := H; have A11 := Aside0.mk A110; clear A110; have H' := Aside0.mk H; clear H; obtain ⟨ASz12_3, cSz12_3, HGz12, hgz12, HSz12_3⟩ := HI0.out; have hcz12_0 := cellS24_0 HGz12; have hcz12_1 := cellS24_1 HGz12; have hcz12_2 := cellS24_2 HGz12; have hcz12_3 := cellS24_3 HGz12; have hfz12_0 := blk_frozen HGz12 0; have hfz12_1 := blk_frozen HGz12 1; have hfz12_2 := blk_frozen HGz12 2; clear HGz12 hgz12; have p149 : 0 ≤ (x15_1 : Int) := oD; have q149 : x15_1 < (s0_3.length : Int) := oD; obtain ⟨ad149, e149, hx149_0, hx149_1, hx149_2, hx149_3⟩ := at_T68 HSz12_3 x15_1 p149 q149
        cases e149
        replace hx149_0 := pw_cell_below HB.out hx149_0; replace hx149_1 := pw_cell_below HB.out hx149_1; replace hx149_2 := pw_cell_below HB.out hx149_2; replace hx149_3 := pw_cell_below HB.out hx149_3
        (try (obtain ⟨ad149zz4, e149zz4, hx149_0zz4, hx149_1zz4, hx149_2zz4, hx149_3zz4⟩ := at_T68 HSz4_3 x15_1 p149 q149; cases e149zz4; replace hx149_0zz4 := pw_cell_below HB.out hx149_0zz4; replace hx149_1zz4 := pw_cell_below HB.out hx149_1zz4; replace hx149_2zz4 := pw_cell_below HB.out hx149_2zz4; replace hx149_3zz4 := pw_cell_below HB.out hx149_3zz4))
        replace p149 := eq_true p149; replace q149 := eq_true q149
        go_wp2_with (first | ((with_reducible refine gate_dst (N := 9) rfl ?_); refine box_event ?hg (N := 9) ?hd (cs := #[.int .i64 0, .int .i64 0, .int .i64 0, .bool false]) (t := 68) ?hr ?_; (case hd => rfl); (case hg => rfl); (case hr => first | (go_simp; done) | (go_simp; rfl)); intro gb150 hg w13 hbox hb; have n0_ := Aside0.mk (IsS24.below (by repeat (first | (with_reducible first | exact HI0.out | apply IsS24.alloc | apply IsS24.drewN | apply IsS24.drew | apply IsS24.set_0 | apply IsS24.set_1 | apply IsS24.set_2) | exact HI0.out)) hb); have n1_ := Aside0.mk (KeepBut.trans (by repeat (first | (with_reducible first | exact HK.out | apply KeepBut.set_ | apply keep_drewN | apply keep_drew | apply keep_alloc) | exact HK.out)) (KeepBut.of_below hb g none) (.inl rfl)); have n2_ := Aside0.mk (below_step (by repeat (first | (with_reducible first | exact HB.out | apply below_alloc | apply pw_below_drewN | apply below_drew1 | refine below_set ?_ (IsS24.ge HI0.out)) | exact HB.out)) hb); have n3_ := Aside0.mk (hbox); have n4_ := Aside0.mk ((by rw [hg]; exact (keep_size (w := w) (g := g) (row := none) (by repeat (first | (with_reducible first | exact HK.out | apply KeepBut.set_ | apply keep_drewN | apply keep_drew | apply keep_alloc) | exact HK.out))) : w.heap.size ≤ gb150)); have n5_ := Aside0.mk ((Nat.le_trans HW0.out (by rw [hg]; exact (keep_size (w := w) (g := g) (row := none) (by repeat (first | (with_reducible first | exact HK.out | apply KeepBut.set_ | apply keep_drewN | apply keep_drew | apply keep_alloc) | exact HK.out))) : w.heap.size ≤ gb150) : w0.heap.size ≤ gb150)); have n6_ := Aside0.mk ((by rw [hg]; exact Nat.ne_of_lt (IsS24.lt (show IsS24 w0 _ g s0_0 s0_1 s0_2 s0_3 from by repeat (first | (with_reducible first | exact HI0.out | apply IsS24.alloc | apply IsS24.drewN | apply IsS24.drew | apply IsS24.set_0 | apply IsS24.set_1 | apply IsS24.set_2) | exact HI0.out))) : g ≠ gb150)); have n7_ := Aside0.mk ((by rw [hg]; exact Nat.ne_of_gt (IsS24.lt (show IsS24 w0 _ g s0_0 s0_1 s0_2 s0_3 from by repeat (first | (with_reducible first | exact HI0.out | apply IsS24.alloc | apply IsS24.drewN | apply IsS24.drew | apply IsS24.set_0 | apply IsS24.set_1 | apply IsS24.set_2) | exact HI0.out))) : gb150 ≠ g)); clear HI0; clear HK; clear HB; have HI0 := n0_; have HK := n1_; have HB := n2_; have BK150 := n3_; have GW150 := n4_; have GE150 := n5_; have NB0_150 := n6_; have NB150_0 := n7_; clear n0_ n1_ n2_ n3_ n4_ n5_ n6_ n7_; clear hb hbox hg; have hnb14 := NB150_0.out; have hnc14 := NB0_150.out; have hcz15_0 : w13.cell? ⟨gb150, 0, none⟩ = some (.int .i64 0) := b1 BK150 0; have hcz15_1 : w13.cell? ⟨gb150, 1, none⟩ = some (.int .i64 0) := b1 BK150 1; have hcz15_2 : w13.cell? ⟨gb150, 2, none⟩ = some (.int .i64 0) := b1 BK150 2; have hcz15_3 : w13.cell? ⟨gb150, 3, none⟩ = some (.bool false) := b1 BK150 3; have hfz15_0 := blk_frozen BK150.out 0; have hfz15_1 := blk_frozen BK150.out 1; have hfz15_2 := blk_frozen BK150.out 2; have hfz15_3 := blk_frozen BK150.out 3) | (go_at_call 110; (with_reducible refine (impl_has.calls a1 ((rd_T68 s0_3 x15_1).f0) true _ A9.out).mono ?_); rintro e w' ⟨rfl, ⟨nd, rfl⟩⟩) | ((with_reducible refine gate_callee (f := 74) rfl ?_); refine goesL_ (some 32) rfl rfl Try.func74 (by kernel_rfl) rfl #[.int .i64 ((rd_T68 s0_3 x15_1).f2)] rfl (by (try simp only [m3]); first | done | rfl | (simp only [d2]; rfl)) ?_; (with_reducible refine (impl_only.calls ((rd_T68 s0_3 x15_1).f2) t152 _ A11.out).mono ?_); rintro e w' ⟨rfl, ⟨nd, rfl⟩⟩; refine ⟨_, rfl, ?_⟩))
        go_roundg k1
        case measure => have := HK1.out; omega
        case rel => exact ⟨(Go.bits .or .i64 x7_1 t152), (wrap64 (x15_1 + 1)), (by first | rfl | (simp; done) | (simp [*]; done) | (rw [Int.tmod_eq_emod_of_nonneg (Int.natCast_nonneg _)]; done)), (by first | rfl | (simp; done) | (simp [*]; done) | (rw [Int.tmod_eq_emod_of_nonneg (Int.natCast_nonneg _)]; done)), H', ⟨by have := HK1.out; omega⟩, ⟨by repeat (first | (with_reducible first | exact HI0.out | apply IsS24.alloc | apply IsS24.drewN | apply IsS24.drew | apply IsS24.set_0 | apply IsS24.set_1 | apply IsS24.set_2 | refine IsS24.far ?_ NB0_150.out _) | exact HI0.out)⟩, ⟨by repeat (first | (with_reducible first | exact HK.out | apply KeepBut.set_ | apply keep_drewN | apply keep_drew | apply keep_alloc | refine keep_far ?_ GW150.out _) | exact HK.out)⟩, ⟨by repeat (first | (with_reducible first | exact HB.out | apply below_alloc | apply pw_below_drewN | apply below_drew1 | refine below_set ?_ (IsS24.ge HI0.out) | refine below_set ?_ GE150.out) | exact HB.out)⟩⟩
       ·replace c10 := Bool.eq_false_iff.mpr c10; subst c10
        have H1 : (impl_Auto_step.l0 k1 a1 a2 x7_1 s0_3 (s0_3.length : Int) (wrap64 (x15_1 + 1)) s0_0 s0_1 s0_2 s0_3) = some (r1, r2, r3, r4) := by rw [if_neg (show ¬ (false = true) by decide)] at H; exact H
        clear H; have H := H1; clear H1; have H' := Aside0.mk H; clear H; obtain ⟨ASz16_3, cSz16_3, HGz16, hgz16, HSz16_3⟩ := HI0.out; have hcz16_0 := cellS24_0 HGz16; have hcz16_1 := cellS24_1 HGz16; have hcz16_2 := cellS24_2 HGz16; have hcz16_3 := cellS24_3 HGz16; have hfz16_0 := blk_frozen HGz16 0; have hfz16_1 := blk_frozen HGz16 1; have hfz16_2 := blk_frozen HGz16 2; clear HGz16 hgz16; have p149 : 0 ≤ (x15_1 : Int) := oD; have q149 : x15_1 < (s0_3.length : Int) := oD; obtain ⟨ad149, e149, hx149_0, hx149_1, hx149_2, hx149_3⟩ := at_T68 HSz16_3 x15_1 p149 q149
        cases e149
        replace hx149_0 := pw_cell_below HB.out hx149_0; replace hx149_1 := pw_cell_below HB.out hx149_1; replace hx149_2 := pw_cell_below HB.out hx149_2; replace hx149_3 := pw_cell_below HB.out hx149_3
        (try (obtain ⟨ad149zz4, e149zz4, hx149_0zz4, hx149_1zz4, hx149_2zz4, hx149_3zz4⟩ := at_T68 HSz4_3 x15_1 p149 q149; cases e149zz4; replace hx149_0zz4 := pw_cell_below HB.out hx149_0zz4; replace hx149_1zz4 := pw_cell_below HB.out hx149_1zz4; replace hx149_2zz4 := pw_cell_below HB.out hx149_2zz4; replace hx149_3zz4 := pw_cell_below HB.out hx149_3zz4))
        (try (obtain ⟨ad149zz12, e149zz12, hx149_0zz12, hx149_1zz12, hx149_2zz12, hx149_3zz12⟩ := at_T68 HSz12_3 x15_1 p149 q149; cases e149zz12; replace hx149_0zz12 := pw_cell_below HB.out hx149_0zz12; replace hx149_1zz12 := pw_cell_below HB.out hx149_1zz12; replace hx149_2zz12 := pw_cell_below HB.out hx149_2zz12; replace hx149_3zz12 := pw_cell_below HB.out hx149_3zz12))
        replace p149 := eq_true p149; replace q149 := eq_true q149
        go_wp2_with (first | ((with_reducible refine gate_dst (N := 9) rfl ?_); refine box_event ?hg (N := 9) ?hd (cs := #[.int .i64 0, .int .i64 0, .int .i64 0, .bool false]) (t := 68) ?hr ?_; (case hd => rfl); (case hg => rfl); (case hr => first | (go_simp; done) | (go_simp; rfl)); intro gb150 hg w17 hbox hb; have n0_ := Aside0.mk (IsS24.below (by repeat (first | (with_reducible first | exact HI0.out | apply IsS24.alloc | apply IsS24.drewN | apply IsS24.drew | apply IsS24.set_0 | apply IsS24.set_1 | apply IsS24.set_2) | exact HI0.out)) hb); have n1_ := Aside0.mk (KeepBut.trans (by repeat (first | (with_reducible first | exact HK.out | apply KeepBut.set_ | apply keep_drewN | apply keep_drew | apply keep_alloc) | exact HK.out)) (KeepBut.of_below hb g none) (.inl rfl)); have n2_ := Aside0.mk (below_step (by repeat (first | (with_reducible first | exact HB.out | apply below_alloc | apply pw_below_drewN | apply below_drew1 | refine below_set ?_ (IsS24.ge HI0.out)) | exact HB.out)) hb); have n3_ := Aside0.mk (hbox); have n4_ := Aside0.mk ((by rw [hg]; exact (keep_size (w := w) (g := g) (row := none) (by repeat (first | (with_reducible first | exact HK.out | apply KeepBut.set_ | apply keep_drewN | apply keep_drew | apply keep_alloc) | exact HK.out))) : w.heap.size ≤ gb150)); have n5_ := Aside0.mk ((Nat.le_trans HW0.out (by rw [hg]; exact (keep_size (w := w) (g := g) (row := none) (by repeat (first | (with_reducible first | exact HK.out | apply KeepBut.set_ | apply keep_drewN | apply keep_drew | apply keep_alloc) | exact HK.out))) : w.heap.size ≤ gb150) : w0.heap.size ≤ gb150)); have n6_ := Aside0.mk ((by rw [hg]; exact Nat.ne_of_lt (IsS24.lt (show IsS24 w0 _ g s0_0 s0_1 s0_2 s0_3 from by repeat (first | (with_reducible first | exact HI0.out | apply IsS24.alloc | apply IsS24.drewN | apply IsS24.drew | apply IsS24.set_0 | apply IsS24.set_1 | apply IsS24.set_2) | exact HI0.out))) : g ≠ gb150)); have n7_ := Aside0.mk ((by rw [hg]; exact Nat.ne_of_gt (IsS24.lt (show IsS24 w0 _ g s0_0 s0_1 s0_2 s0_3 from by repeat (first | (with_reducible first | exact HI0.out | apply IsS24.alloc | apply IsS24.drewN | apply IsS24.drew | apply IsS24.set_0 | apply IsS24.set_1 | apply IsS24.set_2) | exact HI0.out))) : gb150 ≠ g)); clear HI0; clear HK; clear HB; have HI0 := n0_; have HK := n1_; have HB := n2_; have BK150 := n3_; have GW150 := n4_; have GE150 := n5_; have NB0_150 := n6_; have NB150_0 := n7_; clear n0_ n1_ n2_ n3_ n4_ n5_ n6_ n7_; clear hb hbox hg; have hnb18 := NB150_0.out; have hnc18 := NB0_150.out; have hcz19_0 : w17.cell? ⟨gb150, 0, none⟩ = some (.int .i64 0) := b1 BK150 0; have hcz19_1 : w17.cell? ⟨gb150, 1, none⟩ = some (.int .i64 0) := b1 BK150 1; have hcz19_2 : w17.cell? ⟨gb150, 2, none⟩ = some (.int .i64 0) := b1 BK150 2; have hcz19_3 : w17.cell? ⟨gb150, 3, none⟩ = some (.bool false) := b1 BK150 3; have hfz19_0 := blk_frozen BK150.out 0; have hfz19_1 := blk_frozen BK150.out 1; have hfz19_2 := blk_frozen BK150.out 2; have hfz19_3 := blk_frozen BK150.out 3) | (go_at_call 110; (with_reducible refine (impl_has.calls a1 ((rd_T68 s0_3 x15_1).f0) false _ A9.out).mono ?_); rintro e w' ⟨rfl, ⟨nd, rfl⟩⟩))
        go_roundg k1
        case measure => have := HK1.out; omega
        case rel => exact ⟨(x7_1), (wrap64 (x15_1 + 1)), (by first | rfl | (simp; done) | (simp [*]; done) | (rw [Int.tmod_eq_emod_of_nonneg (Int.natCast_nonneg _)]; done)), (by first | rfl | (simp; done) | (simp [*]; done) | (rw [Int.tmod_eq_emod_of_nonneg (Int.natCast_nonneg _)]; done)), H', ⟨by have := HK1.out; omega⟩, ⟨by repeat (first | (with_reducible first | exact HI0.out | apply IsS24.alloc | apply IsS24.drewN | apply IsS24.drew | apply IsS24.set_0 | apply IsS24.set_1 | apply IsS24.set_2 | refine IsS24.far ?_ NB0_150.out _) | exact HI0.out)⟩, ⟨by repeat (first | (with_reducible first | exact HK.out | apply KeepBut.set_ | apply keep_drewN | apply keep_drew | apply keep_alloc | refine keep_far ?_ GW150.out _) | exact HK.out)⟩, ⟨by repeat (first | (with_reducible first | exact HB.out | apply below_alloc | apply pw_below_drewN | apply below_drew1 | refine below_set ?_ (IsS24.ge HI0.out) | refine below_set ?_ GE150.out) | exact HB.out)⟩⟩
      ·rw [if_neg c8] at H; have c8b0 : (((rd_T68 s0_3 x15_1).f1) == a2) = false := beq_eq_false_iff_ne.mpr c8; have c8b1 : (((rd_T68 s0_3 x15_1).f1) != a2) = true := bne_iff_ne.mpr c8; have H' := Aside0.mk H; clear H; obtain ⟨ASz20_3, cSz20_3, HGz20, hgz20, HSz20_3⟩ := HI0.out; have hcz20_0 := cellS24_0 HGz20; have hcz20_1 := cellS24_1 HGz20; have hcz20_2 := cellS24_2 HGz20; have hcz20_3 := cellS24_3 HGz20; have hfz20_0 := blk_frozen HGz20 0; have hfz20_1 := blk_frozen HGz20 1; have hfz20_2 := blk_frozen HGz20 2; clear HGz20 hgz20; have p149 : 0 ≤ (x15_1 : Int) := oD; have q149 : x15_1 < (s0_3.length : Int) := oD; obtain ⟨ad149, e149, hx149_0, hx149_1, hx149_2, hx149_3⟩ := at_T68 HSz20_3 x15_1 p149 q149
       cases e149
       replace hx149_0 := pw_cell_below HB.out hx149_0; replace hx149_1 := pw_cell_below HB.out hx149_1; replace hx149_2 := pw_cell_below HB.out hx149_2; replace hx149_3 := pw_cell_below HB.out hx149_3
       (try (obtain ⟨ad149zz4, e149zz4, hx149_0zz4, hx149_1zz4, hx149_2zz4, hx149_3zz4⟩ := at_T68 HSz4_3 x15_1 p149 q149; cases e149zz4; replace hx149_0zz4 := pw_cell_below HB.out hx149_0zz4; replace hx149_1zz4 := pw_cell_below HB.out hx149_1zz4; replace hx149_2zz4 := pw_cell_below HB.out hx149_2zz4; replace hx149_3zz4 := pw_cell_below HB.out hx149_3zz4))
       (try (obtain ⟨ad149zz12, e149zz12, hx149_0zz12, hx149_1zz12, hx149_2zz12, hx149_3zz12⟩ := at_T68 HSz12_3 x15_1 p149 q149; cases e149zz12; replace hx149_0zz12 := pw_cell_below HB.out hx149_0zz12; replace hx149_1zz12 := pw_cell_below HB.out hx149_1zz12; replace hx149_2zz12 := pw_cell_below HB.out hx149_2zz12; replace hx149_3zz12 := pw_cell_below HB.out hx149_3zz12))
       (try (obtain ⟨ad149zz16, e149zz16, hx149_0zz16, hx149_1zz16, hx149_2zz16, hx149_3zz16⟩ := at_T68 HSz16_3 x15_1 p149 q149; cases e149zz16; replace hx149_0zz16 := pw_cell_below HB.out hx149_0zz16; replace hx149_1zz16 := pw_cell_below HB.out hx149_1zz16; replace hx149_2zz16 := pw_cell_below HB.out hx149_2zz16; replace hx149_3zz16 := pw_cell_below HB.out hx149_3zz16))
       replace p149 := eq_true p149; replace q149 := eq_true q149
       go_wp2_with (first | ((with_reducible refine gate_dst (N := 9) rfl ?_); refine box_event ?hg (N := 9) ?hd (cs := #[.int .i64 0, .int .i64 0, .int .i64 0, .bool false]) (t := 68) ?hr ?_; (case hd => rfl); (case hg => rfl); (case hr => first | (go_simp; done) | (go_simp; rfl)); intro gb150 hg w21 hbox hb; have n0_ := Aside0.mk (IsS24.below (by repeat (first | (with_reducible first | exact HI0.out | apply IsS24.alloc | apply IsS24.drewN | apply IsS24.drew | apply IsS24.set_0 | apply IsS24.set_1 | apply IsS24.set_2) | exact HI0.out)) hb); have n1_ := Aside0.mk (KeepBut.trans (by repeat (first | (with_reducible first | exact HK.out | apply KeepBut.set_ | apply keep_drewN | apply keep_drew | apply keep_alloc) | exact HK.out)) (KeepBut.of_below hb g none) (.inl rfl)); have n2_ := Aside0.mk (below_step (by repeat (first | (with_reducible first | exact HB.out | apply below_alloc | apply pw_below_drewN | apply below_drew1 | refine below_set ?_ (IsS24.ge HI0.out)) | exact HB.out)) hb); have n3_ := Aside0.mk (hbox); have n4_ := Aside0.mk ((by rw [hg]; exact (keep_size (w := w) (g := g) (row := none) (by repeat (first | (with_reducible first | exact HK.out | apply KeepBut.set_ | apply keep_drewN | apply keep_drew | apply keep_alloc) | exact HK.out))) : w.heap.size ≤ gb150)); have n5_ := Aside0.mk ((Nat.le_trans HW0.out (by rw [hg]; exact (keep_size (w := w) (g := g) (row := none) (by repeat (first | (with_reducible first | exact HK.out | apply KeepBut.set_ | apply keep_drewN | apply keep_drew | apply keep_alloc) | exact HK.out))) : w.heap.size ≤ gb150) : w0.heap.size ≤ gb150)); have n6_ := Aside0.mk ((by rw [hg]; exact Nat.ne_of_lt (IsS24.lt (show IsS24 w0 _ g s0_0 s0_1 s0_2 s0_3 from by repeat (first | (with_reducible first | exact HI0.out | apply IsS24.alloc | apply IsS24.drewN | apply IsS24.drew | apply IsS24.set_0 | apply IsS24.set_1 | apply IsS24.set_2) | exact HI0.out))) : g ≠ gb150)); have n7_ := Aside0.mk ((by rw [hg]; exact Nat.ne_of_gt (IsS24.lt (show IsS24 w0 _ g s0_0 s0_1 s0_2 s0_3 from by repeat (first | (with_reducible first | exact HI0.out | apply IsS24.alloc | apply IsS24.drewN | apply IsS24.drew | apply IsS24.set_0 | apply IsS24.set_1 | apply IsS24.set_2) | exact HI0.out))) : gb150 ≠ g)); clear HI0; clear HK; clear HB; have HI0 := n0_; have HK := n1_; have HB := n2_; have BK150 := n3_; have GW150 := n4_; have GE150 := n5_; have NB0_150 := n6_; have NB150_0 := n7_; clear n0_ n1_ n2_ n3_ n4_ n5_ n6_ n7_; clear hb hbox hg; have hnb22 := NB150_0.out; have hnc22 := NB0_150.out; have hcz23_0 : w21.cell? ⟨gb150, 0, none⟩ = some (.int .i64 0) := b1 BK150 0; have hcz23_1 : w21.cell? ⟨gb150, 1, none⟩ = some (.int .i64 0) := b1 BK150 1; have hcz23_2 : w21.cell? ⟨gb150, 2, none⟩ = some (.int .i64 0) := b1 BK150 2; have hcz23_3 : w21.cell? ⟨gb150, 3, none⟩ = some (.bool false) := b1 BK150 3; have hfz23_0 := blk_frozen BK150.out 0; have hfz23_1 := blk_frozen BK150.out 1; have hfz23_2 := blk_frozen BK150.out 2; have hfz23_3 := blk_frozen BK150.out 3))
       go_roundg k1
       case measure => have := HK1.out; omega
       case rel => exact ⟨(x7_1), (wrap64 (x15_1 + 1)), (by first | rfl | (simp; done) | (simp [*]; done) | (rw [Int.tmod_eq_emod_of_nonneg (Int.natCast_nonneg _)]; done)), (by first | rfl | (simp; done) | (simp [*]; done) | (rw [Int.tmod_eq_emod_of_nonneg (Int.natCast_nonneg _)]; done)), H', ⟨by have := HK1.out; omega⟩, ⟨by repeat (first | (with_reducible first | exact HI0.out | apply IsS24.alloc | apply IsS24.drewN | apply IsS24.drew | apply IsS24.set_0 | apply IsS24.set_1 | apply IsS24.set_2 | refine IsS24.far ?_ NB0_150.out _) | exact HI0.out)⟩, ⟨by repeat (first | (with_reducible first | exact HK.out | apply KeepBut.set_ | apply keep_drewN | apply keep_drew | apply keep_alloc | refine keep_far ?_ GW150.out _) | exact HK.out)⟩, ⟨by repeat (first | (with_reducible first | exact HB.out | apply below_alloc | apply pw_below_drewN | apply below_drew1 | refine below_set ?_ (IsS24.ge HI0.out) | refine below_set ?_ GE150.out) | exact HB.out)⟩⟩
     ·rw [if_neg c7] at H; exact absurd H (by simp)
    ·rw [if_neg c6] at H; exact absurd H (by simp)
   ·rw [if_neg c5] at H; have c5b0 : decide (x15_1 < (s0_3.length : Int)) = false := decide_eq_false c5; clear c5; simp only [Option.some.injEq, Prod.mk.injEq] at H; obtain ⟨rfl, rfl, rfl, rfl⟩ := H
    go_wp2
    go_ret; exact ⟨by first | rfl | (simp [errW_none, errW_some] <;> rfl) | (simp [*, errW_none, errW_some] <;> rfl), by repeat (first | (with_reducible first | exact HI0.out | apply IsS24.alloc | apply IsS24.drewN | apply IsS24.drew | apply IsS24.set_0 | apply IsS24.set_1 | apply IsS24.set_2) | exact HI0.out), by repeat (first | (with_reducible first | exact HB.out | apply below_alloc | apply pw_below_drewN | apply below_drew1 | refine below_set ?_ (IsS24.ge HI0.out)) | exact HB.out), by repeat (first | (with_reducible first | exact HK.out | apply KeepBut.set_ | apply keep_drewN | apply keep_drew | apply keep_alloc) | exact HK.out)⟩


/-! ### impl_AutoNext: function 31 -/
def impl_AutoNext.f (k : Nat) (a0_0 : Int) (a0_1 : Int) (a0_2 : Int) (l0_3 : List (S68)) (a1 : Int) (a2 : Int) : Option (Int) := (impl_SetOk.f a1).bind fun t154 => (if t154 = true then ((impl_AutoOk.f k a0_0 a0_1 a0_2 l0_3).bind fun t155 => (if t155 = true then ((impl_Auto_step.f k a0_0 a0_1 a0_2 l0_3 a1 a2).bind fun bt156 => (some bt156.1)) else (some 0))) else (some 0))
theorem impl_AutoNext.mono : ∀ a0 a1 a2 a3 a4 a5 k, LeO (impl_AutoNext.f k a0 a1 a2 a3 a4 a5) (impl_AutoNext.f (k + 1) a0 a1 a2 a3 a4 a5) := by
 intro a0 a1 a2 a3 a4 a5 k
 unfold impl_AutoNext.f
 repeat' first
   | (with_reducible exact impl_AutoOk.mono _ _ _ _ _)
   | (with_reducible exact impl_Auto_step.mono _ _ _ _ _ _ _)
   | (with_reducible exact LeO.refl _)
   | (with_reducible exact LeO.none _)
   | (with_reducible refine LeO.ite ?_ ?_)
   | (with_reducible refine LeO.bind ?_ (fun _ => ?_))
   | exact impl_AutoOk.mono _ _ _ _ _
   | exact impl_Auto_step.mono _ _ _ _ _ _ _
   | exact LeO.none _
   | refine LeO.ite ?_ ?_
   | refine LeO.bind ?_ (fun _ => ?_)
open Go.Proofs.Ytlallflpicgcmaa.Short2 in
set_option maxHeartbeats 8000000 in
set_option maxRecDepth 100000 in
theorem impl_AutoNext.calls (k : Nat) (a0_0 : Int) (a0_1 : Int) (a0_2 : Int) (A0_3 : Option Addr) (c0_3 : Nat) (l0_3 : List (S68)) (a1 : Int) (a2 : Int) (r : Int) (w : World) (hr0_3 : Kd.C k68 w A0_3 l0_3.length l0_3) (hc0_3 : l0_3.length ≤ c0_3) (h : impl_AutoNext.f k a0_0 a0_1 a0_2 l0_3 a1 a2 = some r) :
  Calls Try.prog 31 #[.agg #[.int .i64 a0_0, .int .i64 a0_1, .int .i64 a0_2, .slice A0_3 l0_3.length c0_3], .int .i64 a1, .int .i64 a2] w fun e w' => e = .returned (.int .i64 r) ∧ Below w.heap.size w w' := by
 have hu24 := Try.underlying24; have HR0_3 := Aside0.mk hr0_3; have HC0_3 := Aside0.mk hc0_3; clear hr0_3 hc0_3; have HB := Aside0.mk (Below.refl w.heap.size w); have H : ((impl_SetOk.f a1).bind fun t154 => (if t154 = true then ((impl_AutoOk.f k a0_0 a0_1 a0_2 l0_3).bind fun t155 => (if t155 = true then ((impl_Auto_step.f k a0_0 a0_1 a0_2 l0_3 a1 a2).bind fun bt156 => (some bt156.1)) else (some 0))) else (some 0))) = some r := h; clear h; replace H := Option.bind_eq_some_iff.mp H; obtain ⟨t154, A40, H⟩ := H; replace H : (if t154 = true then ((impl_AutoOk.f k a0_0 a0_1 a0_2 l0_3).bind fun t155 => (if t155 = true then ((impl_Auto_step.f k a0_0 a0_1 a0_2 l0_3 a1 a2).bind fun bt156 => (some bt156.1)) else (some 0))) else (some 0)) = some r := H; have A4 := Aside0.mk A40; clear A40
 by_cases c5 : t154 = true
 ·subst c5
  have H1 : ((impl_AutoOk.f k a0_0 a0_1 a0_2 l0_3).bind fun t155 => (if t155 = true then ((impl_Auto_step.f k a0_0 a0_1 a0_2 l0_3 a1 a2).bind fun bt156 => (some bt156.1)) else (some 0))) = some r := by rw [if_pos rfl] at H; exact H
  clear H; have H := H1; clear H1; replace H := Option.bind_eq_some_iff.mp H; obtain ⟨t155, A60, H⟩ := H; replace H : (if t155 = true then ((impl_Auto_step.f k a0_0 a0_1 a0_2 l0_3 a1 a2).bind fun bt156 => (some bt156.1)) else (some 0)) = some r := H; have A6 := Aside0.mk A60; clear A60
  by_cases c7 : t155 = true
  ·subst c7
   have H1 : ((impl_Auto_step.f k a0_0 a0_1 a0_2 l0_3 a1 a2).bind fun bt156 => (some bt156.1)) = some r := by rw [if_pos rfl] at H; exact H
   clear H; have H := H1; clear H1; replace H := Option.bind_eq_some_iff.mp H; obtain ⟨⟨t156, t157, t158, t159⟩, A80, H⟩ := H; replace H : (some t156) = some r := H; have A8 := Aside0.mk A80; clear A80; obtain rfl := Option.some.inj H
   go_enter Try.func31, Try.ntmps31
   go_wp2_with (first | ((with_reducible refine gate_dst (N := 3) rfl ?_); refine box_event ?hg (N := 3) ?hd (cs := #[.int .i64 a0_0, .int .i64 a0_1, .int .i64 a0_2, .slice A0_3 l0_3.length c0_3]) (t := 24) ?hr ?_; (case hd => rfl); (case hg => rfl); (case hr => first | (go_simp; done) | (go_simp; rfl)); intro gb153 hg w9 hbox hb; have BK153 := Aside0.mk (hbox); have GW153 := xG HB hg; have GE153 := xG HB hg; replace HB := xS HB hb; clear hb hbox hg) | ((with_reducible refine gate_callee (f := 78) rfl ?_); refine goesL_ (some 8) rfl rfl Try.func78 (by kernel_rfl) rfl #[.int .i64 a1] rfl (by (try simp only [m3]); first | done | rfl | (simp only [d2]; rfl)) ?_; (with_reducible refine (impl_SetOk.calls a1 true _ A4.out).mono ?_); rintro e w' ⟨rfl, ⟨nd, rfl⟩⟩; refine ⟨_, rfl, ?_⟩; (try (rw [drewN_self w9]; generalize hq_ : World.drewN w9 _ = w9; have n0_ : Aside0 (w9.heap[gb153]? = some (.cells #[.int .i64 a0_0, .int .i64 a0_1, .int .i64 a0_2, .slice A0_3 l0_3.length c0_3] 24 (0, 0))) := ⟨by rw [← hq_]; exact (zB BK153.out)⟩; have n1_ : Aside0 (Below w.heap.size w w9) := ⟨by rw [← hq_]; exact (zS HB.out)⟩; clear BK153 HB hq_; have BK153 := n0_; have HB := n1_; clear n0_ n1_)); have hcz10_0 : w9.cell? ⟨gb153, 0, none⟩ = some (.int .i64 a0_0) := b1 BK153 0; have hcz10_1 : w9.cell? ⟨gb153, 1, none⟩ = some (.int .i64 a0_1) := b1 BK153 1; have hcz10_2 : w9.cell? ⟨gb153, 2, none⟩ = some (.int .i64 a0_2) := b1 BK153 2; have hcz10_3 : w9.cell? ⟨gb153, 3, none⟩ = some (.slice A0_3 l0_3.length c0_3) := b1 BK153 3; have hfz10_0 := blk_frozen BK153.out 0; have hfz10_1 := blk_frozen BK153.out 1; have hfz10_2 := blk_frozen BK153.out 2; have hfz10_3 := blk_frozen BK153.out 3) | (go_at_call 22; (with_reducible refine (impl_AutoOk.calls k a0_0 a0_1 a0_2 _ _ l0_3 true _ ?side1 ?side2 A6.out).mono ?_); (case side1 => exact zC (Kd.C_below HR0_3.out HB.out)); (case side2 => exact HC0_3.out); rintro e w11 ⟨rfl, hb⟩; replace BK153 := xB BK153 hb; replace HB := xS HB hb; (try clear hb); (try clear hb2); (try clear hk); (try clear hi); have HI153 := Aside0.mk (show IsS24 w w11 gb153 a0_0 a0_1 a0_2 l0_3 from ⟨A0_3, c0_3, BK153.out, GW153.out, HR0_3.out⟩); clear BK153) | ((with_reducible refine gate_callee (f := 79) rfl ?_); refine goesL_ (some 17) rfl rfl Try.func79 (by kernel_rfl) rfl #[.pointer (some ⟨gb153, 0, none⟩), .int .i64 a1, .int .i64 a2] rfl (by (try simp only [m3]); first | done | rfl | (simp only [d2]; rfl)) ?_; (with_reducible refine (impl_Auto_step.calls k gb153 a0_0 a0_1 a0_2 l0_3 a1 a2 t156 t157 t158 t159 w _ ?side1 ?side2 A8.out).mono ?_); (case side1 => repeat (first | (with_reducible first | exact HI153.out | apply IsS24.alloc | apply IsS24.drewN | apply IsS24.drew | apply IsS24.set_0 | apply IsS24.set_1 | apply IsS24.set_2) | exact HI153.out)); (case side2 => repeat (first | (with_reducible first | exact HB.out | apply below_alloc | apply pw_below_drewN | apply below_drew1 | refine below_set ?_ (IsS24.ge HI153.out)) | exact HB.out)); rintro e w12 ⟨rfl, hi, hb, hk⟩; refine ⟨_, rfl, ?_⟩; have n0_ := Aside0.mk (hb); have n1_ := Aside0.mk (hi); clear HB; clear HI153; have HB := n0_; have HI153 := n1_; clear n0_ n1_; (try clear hb); (try clear hb2); (try clear hk); (try clear hi)))
   go_ret; exact ⟨by first | rfl | (simp [errW_none, errW_some] <;> rfl) | (simp [*, errW_none, errW_some] <;> rfl), by repeat (first | (with_reducible first | exact HB.out | apply below_alloc | apply pw_below_drewN | apply below_drew1 | refine below_set ?_ (IsS24.ge HI153.out)) | exact HB.out)⟩
  ·replace c7 := Bool.eq_false_iff.mpr c7; subst c7
   have H1 : (some 0) = some r := by rw [if_neg (show ¬ (false = true) by decide)] at H; exact H
   clear H; have H := H1; clear H1; obtain rfl := Option.some.inj H
   go_enter Try.func31, Try.ntmps31
   go_wp2_with (first | ((with_reducible refine gate_dst (N := 3) rfl ?_); refine box_event ?hg (N := 3) ?hd (cs := #[.int .i64 a0_0, .int .i64 a0_1, .int .i64 a0_2, .slice A0_3 l0_3.length c0_3]) (t := 24) ?hr ?_; (case hd => rfl); (case hg => rfl); (case hr => first | (go_simp; done) | (go_simp; rfl)); intro gb153 hg w13 hbox hb; have BK153 := Aside0.mk (hbox); have GW153 := xG HB hg; have GE153 := xG HB hg; replace HB := xS HB hb; clear hb hbox hg) | ((with_reducible refine gate_callee (f := 78) rfl ?_); refine goesL_ (some 8) rfl rfl Try.func78 (by kernel_rfl) rfl #[.int .i64 a1] rfl (by (try simp only [m3]); first | done | rfl | (simp only [d2]; rfl)) ?_; (with_reducible refine (impl_SetOk.calls a1 true _ A4.out).mono ?_); rintro e w' ⟨rfl, ⟨nd, rfl⟩⟩; refine ⟨_, rfl, ?_⟩; have hcz14_0 : w13.cell? ⟨gb153, 0, none⟩ = some (.int .i64 a0_0) := b1 BK153 0; have hcz14_1 : w13.cell? ⟨gb153, 1, none⟩ = some (.int .i64 a0_1) := b1 BK153 1; have hcz14_2 : w13.cell? ⟨gb153, 2, none⟩ = some (.int .i64 a0_2) := b1 BK153 2; have hcz14_3 : w13.cell? ⟨gb153, 3, none⟩ = some (.slice A0_3 l0_3.length c0_3) := b1 BK153 3; have hfz14_0 := blk_frozen BK153.out 0; have hfz14_1 := blk_frozen BK153.out 1; have hfz14_2 := blk_frozen BK153.out 2; have hfz14_3 := blk_frozen BK153.out 3) | (go_at_call 22; (with_reducible refine (impl_AutoOk.calls k a0_0 a0_1 a0_2 _ _ l0_3 false _ ?side1 ?side2 A6.out).mono ?_); (case side1 => repeat (first | exact (Kd.C_below HR0_3.out (zS HB.out)) | (with_reducible refine Kd.C_alloc ?_ _) | (with_reducible refine Kd.C_drewN ?_ _) | (with_reducible refine Kd.C_drew ?_))); (case side2 => exact HC0_3.out); rintro e w15 ⟨rfl, hb⟩; replace BK153 := xB BK153 hb; replace HB := xS HB hb; (try clear hb); (try clear hb2); (try clear hk); (try clear hi)))
   go_ret; exact ⟨by first | rfl | (simp [errW_none, errW_some] <;> rfl) | (simp [*, errW_none, errW_some] <;> rfl), by repeat (first | (with_reducible first | exact HB.out | apply below_alloc | apply pw_below_drewN | apply below_drew1 | refine below_set ?_ GE153.out) | exact HB.out)⟩
 ·replace c5 := Bool.eq_false_iff.mpr c5; subst c5
  have H1 : (some 0) = some r := by rw [if_neg (show ¬ (false = true) by decide)] at H; exact H
  clear H; have H := H1; clear H1; obtain rfl := Option.some.inj H
  go_enter Try.func31, Try.ntmps31
  go_wp2_with (first | ((with_reducible refine gate_dst (N := 3) rfl ?_); refine box_event ?hg (N := 3) ?hd (cs := #[.int .i64 a0_0, .int .i64 a0_1, .int .i64 a0_2, .slice A0_3 l0_3.length c0_3]) (t := 24) ?hr ?_; (case hd => rfl); (case hg => rfl); (case hr => first | (go_simp; done) | (go_simp; rfl)); intro gb153 hg w16 hbox hb; have BK153 := Aside0.mk (hbox); have GW153 := xG HB hg; have GE153 := xG HB hg; replace HB := xS HB hb; clear hb hbox hg) | ((with_reducible refine gate_callee (f := 78) rfl ?_); refine goesL_ (some 8) rfl rfl Try.func78 (by kernel_rfl) rfl #[.int .i64 a1] rfl (by (try simp only [m3]); first | done | rfl | (simp only [d2]; rfl)) ?_; (with_reducible refine (impl_SetOk.calls a1 false _ A4.out).mono ?_); rintro e w' ⟨rfl, ⟨nd, rfl⟩⟩; refine ⟨_, rfl, ?_⟩))
  go_ret; exact ⟨by first | rfl | (simp [errW_none, errW_some] <;> rfl) | (simp [*, errW_none, errW_some] <;> rfl), by repeat (first | (with_reducible first | exact HB.out | apply below_alloc | apply pw_below_drewN | apply below_drew1 | refine below_set ?_ GE153.out) | exact HB.out)⟩

/-! ### spec_l1Bit: function 109 -/
def spec_l1Bit.f (a0 : Int) : Option (Int) := if 0 ≤ (Go.bits .and .i64 a0 31) then (some (shl .i64 1 (Go.bits .and .i64 a0 31))) else (none)
set_option maxHeartbeats 8000000 in
set_option maxRecDepth 100000 in
theorem spec_l1Bit.calls (a0 : Int) (r : Int) (w : World) (h : spec_l1Bit.f a0 = some r) :
    Calls Try.prog 109 #[.int .i64 a0] w fun e w' => e = .returned (.int .i64 r) ∧ Drawn0 w w' := by
  have H : (if 0 ≤ (Go.bits .and .i64 a0 31) then (some (shl .i64 1 (Go.bits .and .i64 a0 31))) else (none)) = some r := h
  clear h
  by_cases c2 : 0 ≤ (Go.bits .and .i64 a0 31)
  · rw [if_pos c2] at H
    have c2b0 := eq_true c2
    have c2b1 : decide (0 ≤ (Go.bits .and .i64 a0 31)) = true := decide_eq_true c2
    clear c2
    obtain ⟨ji3, hji3⟩ : ∃ j_ : Int, (shl .i64 1 (Go.bits .and .i64 a0 31)) = j_ := ⟨_, rfl⟩
    replace H : (some ji3) = some r := by first | (rw [hji3] at H; exact H) | (simp only [hji3] at H ⊢; exact H)
    have hji3_ : (IntKind.i64.wrap (1 * 2 ^ min (Go.bits .and .i64 a0 31).toNat 64)) = ji3 := hji3
    have hji3z : (Go.bits .and .i64 a0 31) ≤ 64 → (IntKind.i64.wrap (1 * 2 ^ (Go.bits .and .i64 a0 31).toNat)) = ji3 := shl_small hji3
    have hji3u : (IntKind.i64.wrap (2 ^ min (Go.bits .and .i64 a0 31).toNat 64)) = ji3 := by have h_ := hji3_; rw [Int.one_mul] at h_; exact h_
    have hji3v : (Go.bits .and .i64 a0 31) ≤ 64 → (IntKind.i64.wrap (2 ^ (Go.bits .and .i64 a0 31).toNat)) = ji3 := fun hle_ => by have h_ := hji3z hle_; rw [Int.one_mul] at h_; exact h_
    have hji3y : (wrap64 (1 * 2 ^ min (Go.bits .and .i64 a0 31).toNat 64)) = ji3 := (i64_w _).symm.trans hji3_
    have hji3x : (Go.bits .and .i64 a0 31) ≤ 64 → (wrap64 (1 * 2 ^ (Go.bits .and .i64 a0 31).toNat)) = ji3 := fun h_ => (i64_w _).symm.trans (hji3z h_)
    obtain rfl := Option.some.inj H
    go_enter Try.func109, Try.ntmps109
    go_wp2
    go_ret
    exact ⟨by first | rfl | (simp; done) | (simp only [← hji3] <;> (first | rfl | simp)) | (simp [*]; done), by repeat (first | exact Drawn0.refl _ | apply Drawn0.step)⟩
  · rw [if_neg c2] at H
    exact absurd H (by simp)


/-! ### spec_l1Has: function 96 -/
def spec_l1Has.f (a0 : Int) (a1 : Int) : Option (Bool) := (spec_l1In.f a1 0 30).bind fun t160 => (if t160 = true then ((spec_l1Bit.f a1).bind fun t161 => (some ((Go.bits .and .i64 a0 t161) != 0))) else (some false))
open Go.Proofs.Ytlallflpicgcmaa.Short2 in
set_option maxHeartbeats 8000000 in
set_option maxRecDepth 100000 in
theorem spec_l1Has.calls (a0 : Int) (a1 : Int) (r : Bool) (w : World) (h : spec_l1Has.f a0 a1 = some r) :
  Calls Try.prog 96 #[.int .i64 a0, .int .i64 a1] w fun e w' => e = .returned (.bool r) ∧ Drawn0 w w' := by
 have H : ((spec_l1In.f a1 0 30).bind fun t160 => (if t160 = true then ((spec_l1Bit.f a1).bind fun t161 => (some ((Go.bits .and .i64 a0 t161) != 0))) else (some false))) = some r := h; clear h; replace H := Option.bind_eq_some_iff.mp H; obtain ⟨t160, A30, H⟩ := H; replace H : (if t160 = true then ((spec_l1Bit.f a1).bind fun t161 => (some ((Go.bits .and .i64 a0 t161) != 0))) else (some false)) = some r := H; have A3 := Aside0.mk A30; clear A30
 by_cases c4 : t160 = true
 ·subst c4
  have H1 : ((spec_l1Bit.f a1).bind fun t161 => (some ((Go.bits .and .i64 a0 t161) != 0))) = some r := by rw [if_pos rfl] at H; exact H
  clear H; have H := H1; clear H1; replace H := Option.bind_eq_some_iff.mp H; obtain ⟨t161, A50, H⟩ := H; replace H : (some ((Go.bits .and .i64 a0 t161) != 0)) = some r := H; have A5 := Aside0.mk A50; clear A50; obtain rfl := Option.some.inj H
  go_enter Try.func96, Try.ntmps96
  go_wp2_with (first | ((with_reducible refine gate_callee (f := 58) rfl ?_); refine goesL_ (some 6) rfl rfl Try.func58 (by kernel_rfl) rfl #[.int .i64 a1, .int .i64 0, .int .i64 30] rfl (by (try simp only [m3]); first | done | rfl | (simp only [d2]; rfl)) ?_; (with_reducible refine (spec_l1In.calls a1 0 30 true _ A3.out).mono ?_); rintro e w' ⟨rfl, ⟨nd, rfl⟩⟩; refine ⟨_, rfl, ?_⟩) | (go_at_call 109; (with_reducible refine (spec_l1Bit.calls a1 t161 _ A5.out).mono ?_); rintro e w' ⟨rfl, ⟨nd, rfl⟩⟩))
  go_ret; exact ⟨by first | rfl | (simp; done) | (simp [*]; done), by repeat (first | exact Drawn0.refl _ | apply Drawn0.step)⟩
 ·replace c4 := Bool.eq_false_iff.mpr c4; subst c4
  have H1 : (some false) = some r := by rw [if_neg (show ¬ (false = true) by decide)] at H; exact H
  clear H; have H := H1; clear H1; obtain rfl := Option.some.inj H
  go_enter Try.func96, Try.ntmps96
  go_wp2_with (first | ((with_reducible refine gate_callee (f := 58) rfl ?_); refine goesL_ (some 6) rfl rfl Try.func58 (by kernel_rfl) rfl #[.int .i64 a1, .int .i64 0, .int .i64 30] rfl (by (try simp only [m3]); first | done | rfl | (simp only [d2]; rfl)) ?_; (with_reducible refine (spec_l1In.calls a1 0 30 false _ A3.out).mono ?_); rintro e w' ⟨rfl, ⟨nd, rfl⟩⟩; refine ⟨_, rfl, ?_⟩))
  go_ret; exact ⟨by first | rfl | (simp; done) | (simp [*]; done), by repeat (first | exact Drawn0.refl _ | apply Drawn0.step)⟩


/-! ### spec_l4Reach: function 80 -/
mutual
def spec_l4Reach.l0 : Nat → Int → Int → Int → Int → Int → List (S68) → Option (Int)
 | 0, _, _, _, _, _, _ => none
 | k + 1, x1, x5, x163000, x163001, x163002, x163003 => if x5 ≤ x163001 then (spec_l4Reach.l1 k x1 x5 0 x163000 x163001 x163002 x163003) else (some x1)
def spec_l4Reach.l1 : Nat → Int → Int → Int → Int → Int → Int → List (S68) → Option (Int)
 | 0, _, _, _, _, _, _, _ => none
 | k + 1, x1, x5, x6, x163000, x163001, x163002, x163003 => if x6 < (x163003.length : Int) then (if 0 ≤ x6 then ((spec_l1Has.f x1 ((rd_T68 x163003 x6).f0)).bind fun t164 => (if t164 = true then ((spec_l1Bit.f ((rd_T68 x163003 x6).f2)).bind fun t166 => (spec_l4Reach.l1 k (Go.bits .or .i64 x1 t166) x5 (wrap64 (x6 + 1)) x163000 x163001 x163002 x163003)) else (spec_l4Reach.l1 k x1 x5 (wrap64 (x6 + 1)) x163000 x163001 x163002 x163003))) else (none)) else (spec_l4Reach.l0 k x1 (wrap64 (x5 + 1)) x163000 x163001 x163002 x163003)
end
def spec_l4Reach.f (k : Nat) (a0_0 : Int) (a0_1 : Int) (a0_2 : Int) (l0_3 : List (S68)) (a1 : Int) : Option (Int) := spec_l4Reach.l0 k a1 0 a0_0 a0_1 a0_2 l0_3
theorem spec_l4Reach.mono_l : ∀ k, (∀ y0 y1 y2 y3 y4 y5, LeO (spec_l4Reach.l0 k y0 y1 y2 y3 y4 y5) (spec_l4Reach.l0 (k + 1) y0 y1 y2 y3 y4 y5)) ∧ (∀ y0 y1 y2 y3 y4 y5 y6, LeO (spec_l4Reach.l1 k y0 y1 y2 y3 y4 y5 y6) (spec_l4Reach.l1 (k + 1) y0 y1 y2 y3 y4 y5 y6))
 | 0 => ⟨fun _ _ _ _ _ _ r h => by simp [spec_l4Reach.l0] at h, fun _ _ _ _ _ _ _ r h => by simp [spec_l4Reach.l1] at h⟩
 | k + 1 => by
  obtain ⟨ih0, ih1⟩ := spec_l4Reach.mono_l k
  refine ⟨?_, ?_⟩
  ·intro y0 y1 y2 y3 y4 y5
   unfold spec_l4Reach.l0
   repeat' first
   | (with_reducible exact ih0 _ _ _ _ _ _)
   | (with_reducible exact ih1 _ _ _ _ _ _ _)
   | (with_reducible exact LeO.refl _)
   | (with_reducible exact LeO.none _)
   | (with_reducible refine LeO.ite ?_ ?_)
   | (with_reducible refine LeO.bind ?_ (fun _ => ?_))
   | exact ih0 _ _ _ _ _ _
   | exact ih1 _ _ _ _ _ _ _
   | exact LeO.none _
   | refine LeO.ite ?_ ?_
   | refine LeO.bind ?_ (fun _ => ?_)
  ·intro y0 y1 y2 y3 y4 y5 y6
   unfold spec_l4Reach.l1
   repeat' first
   | (with_reducible exact ih0 _ _ _ _ _ _)
   | (with_reducible exact ih1 _ _ _ _ _ _ _)
   | (with_reducible exact LeO.refl _)
   | (with_reducible exact LeO.none _)
   | (with_reducible refine LeO.ite ?_ ?_)
   | (with_reducible refine LeO.bind ?_ (fun _ => ?_))
   | exact ih0 _ _ _ _ _ _
   | exact ih1 _ _ _ _ _ _ _
   | exact LeO.none _
   | refine LeO.ite ?_ ?_
   | refine LeO.bind ?_ (fun _ => ?_)
theorem spec_l4Reach.mono : ∀ a0 a1 a2 a3 a4 k, LeO (spec_l4Reach.f k a0 a1 a2 a3 a4) (spec_l4Reach.f (k + 1) a0 a1 a2 a3 a4) := by
 intro a0 a1 a2 a3 a4 k
 obtain ⟨ih0, ih1⟩ := spec_l4Reach.mono_l k
 unfold spec_l4Reach.f
 repeat' first
   | (with_reducible exact ih0 _ _ _ _ _ _)
   | (with_reducible exact ih1 _ _ _ _ _ _ _)
   | (with_reducible exact LeO.refl _)
   | (with_reducible exact LeO.none _)
   | (with_reducible refine LeO.ite ?_ ?_)
   | (with_reducible refine LeO.bind ?_ (fun _ => ?_))
   | exact ih0 _ _ _ _ _ _
   | exact ih1 _ _ _ _ _ _ _
   | exact LeO.none _
   | refine LeO.ite ?_ ?_
   | refine LeO.bind ?_ (fun _ => ?_)
open Go.Proofs.Ytlallflpicgcmaa.Short2 in
set_option maxHeartbeats 8000000 in
set_option maxRecDepth 100000 in
theorem spec_l4Reach.calls (k : Nat) (a0_0 : Int) (a0_1 : Int) (a0_2 : Int) (A0_3 : Option Addr) (c0_3 : Nat) (l0_3 : List (S68)) (a1 : Int) (r : Int) (w : World) (hr0_3 : Kd.C k68 w A0_3 l0_3.length l0_3) (hc0_3 : l0_3.length ≤ c0_3) (h : spec_l4Reach.f k a0_0 a0_1 a0_2 l0_3 a1 = some r) :
  Calls Try.prog 80 #[.agg #[.int .i64 a0_0, .int .i64 a0_1, .int .i64 a0_2, .slice A0_3 l0_3.length c0_3], .int .i64 a1] w fun e w' => e = .returned (.int .i64 r) ∧ Below w.heap.size w w' := by
 have hu24 := Try.underlying24; have HR0_3 := Aside0.mk hr0_3; have HC0_3 := Aside0.mk hc0_3; clear hr0_3 hc0_3; have HB := Aside0.mk (Below.refl w.heap.size w); have H : (spec_l4Reach.l0 k a1 0 a0_0 a0_1 a0_2 l0_3) = some r := h; clear h; have H' := Aside0.mk H; clear H
 go_enter Try.func80, Try.ntmps80
 go_wp2_with (first | ((with_reducible refine gate_dst (N := 2) rfl ?_); refine box_event ?hg (N := 2) ?hd (cs := #[.int .i64 a0_0, .int .i64 a0_1, .int .i64 a0_2, .slice A0_3 l0_3.length c0_3]) (t := 24) ?hr ?_; (case hd => rfl); (case hg => rfl); (case hr => first | (go_simp; done) | (go_simp; rfl)); intro gb162 hg w3 hbox hb; have BK162 := Aside0.mk (hbox); have GW162 := xG HB hg; have GE162 := xG HB hg; replace HB := xS HB hb; clear hb hbox hg))
 go_loopg [1, 5] k (fun kq v1 v5 w' => ∃ (x1_1 : Int) (x5_1 : Int), v1 = .int .i64 x1_1 ∧ v5 = .int .i64 x5_1 ∧ Aside0 (spec_l4Reach.l0 kq x1_1 x5_1 a0_0 a0_1 a0_2 l0_3 = some r) ∧ Aside0 (kq ≤ k) ∧ Aside0 (w'.heap[gb162]? = some (.cells #[.int .i64 a0_0, .int .i64 a0_1, .int .i64 a0_2, (.slice A0_3 l0_3.length c0_3)] 24 (0, 0))) ∧ Aside0 (Below w.heap.size w w'))
 case atStart => exact ⟨(a1), (0), (by first | rfl | (simp; done) | (simp [*]; done) | (rw [Int.tmod_eq_emod_of_nonneg (Int.natCast_nonneg _)]; done)), (by first | rfl | (simp; done) | (simp [*]; done) | (rw [Int.tmod_eq_emod_of_nonneg (Int.natCast_nonneg _)]; done)), H', ⟨Nat.le_refl _⟩, ⟨zB BK162.out⟩, ⟨zS HB.out⟩⟩
 case round =>
  clear H'
  try clear p2
  obtain ⟨x1_1, x5_1, rfl, rfl, HA, HK1, BK162, HB⟩ := hrel
  cases gk with
  | zero => exact absurd HA.out (by simp [spec_l4Reach.l0])
  | succ k1 =>
   have H := HA.out; clear HA; simp only [spec_l4Reach.l0] at H
   by_cases c4 : x5_1 ≤ a0_1
   ·rw [if_pos c4] at H; have c4b0 : decide (x5_1 ≤ a0_1) = true := decide_eq_true c4; clear c4; have H' := Aside0.mk H; clear H; have hcz5_0 : wr.cell? ⟨gb162, 0, none⟩ = some (.int .i64 a0_0) := b1 BK162 0; have hcz5_1 : wr.cell? ⟨gb162, 1, none⟩ = some (.int .i64 a0_1) := b1 BK162 1; have hcz5_2 : wr.cell? ⟨gb162, 2, none⟩ = some (.int .i64 a0_2) := b1 BK162 2; have hcz5_3 : wr.cell? ⟨gb162, 3, none⟩ = some (.slice A0_3 l0_3.length c0_3) := b1 BK162 3; have hfz5_0 := blk_frozen BK162.out 0; have hfz5_1 := blk_frozen BK162.out 1; have hfz5_2 := blk_frozen BK162.out 2; have hfz5_3 := blk_frozen BK162.out 3
    go_wp2
    go_loopg [1, 6] k1 (fun kq v1 v6 w' => ∃ (x1_2 : Int) (x6_2 : Int), v1 = .int .i64 x1_2 ∧ v6 = .int .i64 x6_2 ∧ Aside0 (spec_l4Reach.l1 kq x1_2 x5_1 x6_2 a0_0 a0_1 a0_2 l0_3 = some r) ∧ Aside0 (kq ≤ k1) ∧ Aside0 (w'.heap[gb162]? = some (.cells #[.int .i64 a0_0, .int .i64 a0_1, .int .i64 a0_2, (.slice A0_3 l0_3.length c0_3)] 24 (0, 0))) ∧ Aside0 (Below w.heap.size w w'))
    case atStart => exact ⟨(x1_1), (0), (by first | rfl | (simp; done) | (simp [*]; done) | (rw [Int.tmod_eq_emod_of_nonneg (Int.natCast_nonneg _)]; done)), (by first | rfl | (simp; done) | (simp [*]; done) | (rw [Int.tmod_eq_emod_of_nonneg (Int.natCast_nonneg _)]; done)), H', ⟨Nat.le_refl _⟩, ⟨zB BK162.out⟩, ⟨zS HB.out⟩⟩
    case round =>
     clear H'
     try clear p2
     try clear c4
     try clear c4b0
     try clear hcz5_0
     try clear hcz5_1
     try clear hcz5_2
     try clear hcz5_3
     try clear hfz5_0
     try clear hfz5_1
     try clear hfz5_2
     try clear hfz5_3
     try clear p2
     obtain ⟨x1_2, x6_2, rfl, rfl, HA, HK2, BK162, HB⟩ := hrel
     cases gk with
     | zero => exact absurd HA.out (by simp [spec_l4Reach.l1])
     | succ k2 =>
      have H := HA.out; clear HA; simp only [spec_l4Reach.l1] at H
      by_cases c6 : x6_2 < (l0_3.length : Int)
      ·rw [if_pos c6] at H; have c6b0 : decide (x6_2 < (l0_3.length : Int)) = true := decide_eq_true c6; clear c6
       by_cases c7 : 0 ≤ x6_2
       ·rw [if_pos c7] at H; have c7b0 : decide (0 ≤ x6_2) = true := decide_eq_true c7; clear c7; replace H := Option.bind_eq_some_iff.mp H; obtain ⟨t164, A80, H⟩ := H; replace H : (if t164 = true then ((spec_l1Bit.f ((rd_T68 l0_3 x6_2).f2)).bind fun t166 => (spec_l4Reach.l1 k2 (Go.bits .or .i64 x1_2 t166) x5_1 (wrap64 (x6_2 + 1)) a0_0 a0_1 a0_2 l0_3)) else (spec_l4Reach.l1 k2 x1_2 x5_1 (wrap64 (x6_2 + 1)) a0_0 a0_1 a0_2 l0_3)) = some r := H; have A8 := Aside0.mk A80; clear A80
        by_cases c9 : t164 = true
        ·subst c9
         have H1 : ((spec_l1Bit.f ((rd_T68 l0_3 x6_2).f2)).bind fun t166 => (spec_l4Reach.l1 k2 (Go.bits .or .i64 x1_2 t166) x5_1 (wrap64 (x6_2 + 1)) a0_0 a0_1 a0_2 l0_3)) = some r := by rw [if_pos rfl] at H; exact H
         clear H; have H := H1; clear H1; replace H := Option.bind_eq_some_iff.mp H; obtain ⟨t166, A100, H⟩ := H; replace H : (spec_l4Reach.l1 k2 (Go.bits .or .i64 x1_2 t166) x5_1 (wrap64 (x6_2 + 1)) a0_0 a0_1 a0_2 l0_3) = some r := H; have A10 := Aside0.mk A100; clear A100; have H' := Aside0.mk H; clear H; have hcz11_0 : wr.cell? ⟨gb162, 0, none⟩ = some (.int .i64 a0_0) := b1 BK162 0; have hcz11_1 : wr.cell? ⟨gb162, 1, none⟩ = some (.int .i64 a0_1) := b1 BK162 1; have hcz11_2 : wr.cell? ⟨gb162, 2, none⟩ = some (.int .i64 a0_2) := b1 BK162 2; have hcz11_3 : wr.cell? ⟨gb162, 3, none⟩ = some (.slice A0_3 l0_3.length c0_3) := b1 BK162 3; have hfz11_0 := blk_frozen BK162.out 0; have hfz11_1 := blk_frozen BK162.out 1; have hfz11_2 := blk_frozen BK162.out 2; have hfz11_3 := blk_frozen BK162.out 3; have p163 : 0 ≤ (x6_2 : Int) := oD; have q163 : x6_2 < (l0_3.length : Int) := oD; obtain ⟨ad163, e163, hx163_0, hx163_1, hx163_2, hx163_3⟩ := at_T68 HR0_3.out x6_2 p163 q163
         cases e163
         replace hx163_0 := cT HB hx163_0; replace hx163_1 := cT HB hx163_1; replace hx163_2 := cT HB hx163_2; replace hx163_3 := cT HB hx163_3; replace p163 := eq_true p163; replace q163 := eq_true q163
         go_wp2_with (first | ((with_reducible refine gate_callee (f := 96) rfl ?_); refine goesL_ (some 27) rfl rfl Try.func96 (by kernel_rfl) rfl #[.int .i64 x1_2, .int .i64 ((rd_T68 l0_3 x6_2).f0)] rfl (by (try simp only [m3]); first | done | rfl | (simp only [d2]; rfl)) ?_; (with_reducible refine (spec_l1Has.calls x1_2 ((rd_T68 l0_3 x6_2).f0) true _ A8.out).mono ?_); rintro e w' ⟨rfl, ⟨nd, rfl⟩⟩; refine ⟨_, rfl, ?_⟩; have p165 : 0 ≤ (x6_2 : Int) := oD; have q165 : x6_2 < (l0_3.length : Int) := oD; obtain ⟨ad165, e165, hx165_0, hx165_1, hx165_2, hx165_3⟩ := at_T68 HR0_3.out x6_2 p165 q165; obtain rfl : ad163 = ad165 := (by injection e165); replace hx165_0 := cT HB hx165_0; replace hx165_1 := cT HB hx165_1; replace hx165_2 := cT HB hx165_2; replace hx165_3 := cT HB hx165_3; replace p165 := eq_true p165; replace q165 := eq_true q165) | ((with_reducible refine gate_callee (f := 109) rfl ?_); refine goesL_ (some 35) rfl rfl Try.func109 (by kernel_rfl) rfl #[.int .i64 ((rd_T68 l0_3 x6_2).f2)] rfl (by (try simp only [m3]); first | done | rfl | (simp only [d2]; rfl)) ?_; (with_reducible refine (spec_l1Bit.calls ((rd_T68 l0_3 x6_2).f2) t166 _ A10.out).mono ?_); rintro e w' ⟨rfl, ⟨nd, rfl⟩⟩; refine ⟨_, rfl, ?_⟩))
         go_roundg k2
         case measure => have := HK1.out; have := HK2.out; omega
         case rel => exact ⟨(Go.bits .or .i64 x1_2 t166), (wrap64 (x6_2 + 1)), (by first | rfl | (simp; done) | (simp [*]; done) | (rw [Int.tmod_eq_emod_of_nonneg (Int.natCast_nonneg _)]; done)), (by first | rfl | (simp; done) | (simp [*]; done) | (rw [Int.tmod_eq_emod_of_nonneg (Int.natCast_nonneg _)]; done)), H', ⟨by have := HK1.out; have := HK2.out; omega⟩, ⟨zB BK162.out⟩, ⟨zS HB.out⟩⟩
        ·replace c9 := Bool.eq_false_iff.mpr c9; subst c9
         have H1 : (spec_l4Reach.l1 k2 x1_2 x5_1 (wrap64 (x6_2 + 1)) a0_0 a0_1 a0_2 l0_3) = some r := by rw [if_neg (show ¬ (false = true) by decide)] at H; exact H
         clear H; have H := H1; clear H1; have H' := Aside0.mk H; clear H; have hcz12_0 : wr.cell? ⟨gb162, 0, none⟩ = some (.int .i64 a0_0) := b1 BK162 0; have hcz12_1 : wr.cell? ⟨gb162, 1, none⟩ = some (.int .i64 a0_1) := b1 BK162 1; have hcz12_2 : wr.cell? ⟨gb162, 2, none⟩ = some (.int .i64 a0_2) := b1 BK162 2; have hcz12_3 : wr.cell? ⟨gb162, 3, none⟩ = some (.slice A0_3 l0_3.length c0_3) := b1 BK162 3; have hfz12_0 := blk_frozen BK162.out 0; have hfz12_1 := blk_frozen BK162.out 1; have hfz12_2 := blk_frozen BK162.out 2; have hfz12_3 := blk_frozen BK162.out 3; have p163 : 0 ≤ (x6_2 : Int) := oD; have q163 : x6_2 < (l0_3.length : Int) := oD; obtain ⟨ad163, e163, hx163_0, hx163_1, hx163_2, hx163_3⟩ := at_T68 HR0_3.out x6_2 p163 q163
         cases e163
         replace hx163_0 := cT HB hx163_0; replace hx163_1 := cT HB hx163_1; replace hx163_2 := cT HB hx163_2; replace hx163_3 := cT HB hx163_3; replace p163 := eq_true p163; replace q163 := eq_true q163
         go_wp2_with (first | ((with_reducible refine gate_callee (f := 96) rfl ?_); refine goesL_ (some 27) rfl rfl Try.func96 (by kernel_rfl) rfl #[.int .i64 x1_2, .int .i64 ((rd_T68 l0_3 x6_2).f0)] rfl (by (try simp only [m3]); first | done | rfl | (simp only [d2]; rfl)) ?_; (with_reducible refine (spec_l1Has.calls x1_2 ((rd_T68 l0_3 x6_2).f0) false _ A8.out).mono ?_); rintro e w' ⟨rfl, ⟨nd, rfl⟩⟩; refine ⟨_, rfl, ?_⟩))
         go_roundg k2
         case measure => have := HK1.out; have := HK2.out; omega
         case rel => exact ⟨(x1_2), (wrap64 (x6_2 + 1)), (by first | rfl | (simp; done) | (simp [*]; done) | (rw [Int.tmod_eq_emod_of_nonneg (Int.natCast_nonneg _)]; done)), (by first | rfl | (simp; done) | (simp [*]; done) | (rw [Int.tmod_eq_emod_of_nonneg (Int.natCast_nonneg _)]; done)), H', ⟨by have := HK1.out; have := HK2.out; omega⟩, ⟨zB BK162.out⟩, ⟨zS HB.out⟩⟩
       ·rw [if_neg c7] at H; exact absurd H (by simp)
      ·rw [if_neg c6] at H; have c6b0 : decide (x6_2 < (l0_3.length : Int)) = false := decide_eq_false c6; clear c6; have H' := Aside0.mk H; clear H; have hcz13_0 : wr.cell? ⟨gb162, 0, none⟩ = some (.int .i64 a0_0) := b1 BK162 0; have hcz13_1 : wr.cell? ⟨gb162, 1, none⟩ = some (.int .i64 a0_1) := b1 BK162 1; have hcz13_2 : wr.cell? ⟨gb162, 2, none⟩ = some (.int .i64 a0_2) := b1 BK162 2; have hcz13_3 : wr.cell? ⟨gb162, 3, none⟩ = some (.slice A0_3 l0_3.length c0_3) := b1 BK162 3; have hfz13_0 := blk_frozen BK162.out 0; have hfz13_1 := blk_frozen BK162.out 1; have hfz13_2 := blk_frozen BK162.out 2; have hfz13_3 := blk_frozen BK162.out 3
       go_wp2
       go_roundg k2
       case measure => have := HK1.out; have := HK2.out; omega
       case rel => exact ⟨(x1_2), (wrap64 (x5_1 + 1)), (by first | rfl | (simp; done) | (simp [*]; done) | (rw [Int.tmod_eq_emod_of_nonneg (Int.natCast_nonneg _)]; done)), (by first | rfl | (simp; done) | (simp [*]; done) | (rw [Int.tmod_eq_emod_of_nonneg (Int.natCast_nonneg _)]; done)), H', ⟨by have := HK1.out; have := HK2.out; omega⟩, ⟨zB BK162.out⟩, ⟨zS HB.out⟩⟩
   ·rw [if_neg c4] at H; have c4b0 : decide (x5_1 ≤ a0_1) = false := decide_eq_false c4; clear c4; obtain rfl := Option.some.inj H; have hcz14_0 : wr.cell? ⟨gb162, 0, none⟩ = some (.int .i64 a0_0) := b1 BK162 0; have hcz14_1 : wr.cell? ⟨gb162, 1, none⟩ = some (.int .i64 a0_1) := b1 BK162 1; have hcz14_2 : wr.cell? ⟨gb162, 2, none⟩ = some (.int .i64 a0_2) := b1 BK162 2; have hcz14_3 : wr.cell? ⟨gb162, 3, none⟩ = some (.slice A0_3 l0_3.length c0_3) := b1 BK162 3; have hfz14_0 := blk_frozen BK162.out 0; have hfz14_1 := blk_frozen BK162.out 1; have hfz14_2 := blk_frozen BK162.out 2; have hfz14_3 := blk_frozen BK162.out 3
    go_wp2
    go_ret; exact ⟨by first | rfl | (simp [errW_none, errW_some] <;> rfl) | (simp [*, errW_none, errW_some] <;> rfl), by repeat (first | (with_reducible first | exact HB.out | apply below_alloc | apply pw_below_drewN | apply below_drew1 | refine below_set ?_ GE162.out) | exact HB.out)⟩


/-! ### spec_AutoReach: function 32 -/
def spec_AutoReach.f (k : Nat) (a0_0 : Int) (a0_1 : Int) (a0_2 : Int) (l0_3 : List (S68)) (a1 : Int) : Option (Int) := (spec_AutoOk.f k a0_0 a0_1 a0_2 l0_3).bind fun t168 => (if t168 = true then ((spec_SetOk.f a1).bind fun t169 => (if t169 = true then ((spec_l4Reach.f k a0_0 a0_1 a0_2 l0_3 a1).bind fun t170 => (some t170)) else (some 0))) else (some 0))
theorem spec_AutoReach.mono : ∀ a0 a1 a2 a3 a4 k, LeO (spec_AutoReach.f k a0 a1 a2 a3 a4) (spec_AutoReach.f (k + 1) a0 a1 a2 a3 a4) := by
 intro a0 a1 a2 a3 a4 k
 unfold spec_AutoReach.f
 repeat' first
   | (with_reducible exact spec_AutoOk.mono _ _ _ _ _)
   | (with_reducible exact spec_l4Reach.mono _ _ _ _ _ _)
   | (with_reducible exact LeO.refl _)
   | (with_reducible exact LeO.none _)
   | (with_reducible refine LeO.ite ?_ ?_)
   | (with_reducible refine LeO.bind ?_ (fun _ => ?_))
   | exact spec_AutoOk.mono _ _ _ _ _
   | exact spec_l4Reach.mono _ _ _ _ _ _
   | exact LeO.none _
   | refine LeO.ite ?_ ?_
   | refine LeO.bind ?_ (fun _ => ?_)
open Go.Proofs.Ytlallflpicgcmaa.Short2 in
set_option maxHeartbeats 8000000 in
set_option maxRecDepth 100000 in
theorem spec_AutoReach.calls (k : Nat) (a0_0 : Int) (a0_1 : Int) (a0_2 : Int) (A0_3 : Option Addr) (c0_3 : Nat) (l0_3 : List (S68)) (a1 : Int) (r : Int) (w : World) (hr0_3 : Kd.C k68 w A0_3 l0_3.length l0_3) (hc0_3 : l0_3.length ≤ c0_3) (h : spec_AutoReach.f k a0_0 a0_1 a0_2 l0_3 a1 = some r) :
  Calls Try.prog 32 #[.agg #[.int .i64 a0_0, .int .i64 a0_1, .int .i64 a0_2, .slice A0_3 l0_3.length c0_3], .int .i64 a1] w fun e w' => e = .returned (.int .i64 r) ∧ Below w.heap.size w w' := by
 have hu24 := Try.underlying24; have HR0_3 := Aside0.mk hr0_3; have HC0_3 := Aside0.mk hc0_3; clear hr0_3 hc0_3; have HB := Aside0.mk (Below.refl w.heap.size w); have H : ((spec_AutoOk.f k a0_0 a0_1 a0_2 l0_3).bind fun t168 => (if t168 = true then ((spec_SetOk.f a1).bind fun t169 => (if t169 = true then ((spec_l4Reach.f k a0_0 a0_1 a0_2 l0_3 a1).bind fun t170 => (some t170)) else (some 0))) else (some 0))) = some r := h; clear h; replace H := Option.bind_eq_some_iff.mp H; obtain ⟨t168, A30, H⟩ := H; replace H : (if t168 = true then ((spec_SetOk.f a1).bind fun t169 => (if t169 = true then ((spec_l4Reach.f k a0_0 a0_1 a0_2 l0_3 a1).bind fun t170 => (some t170)) else (some 0))) else (some 0)) = some r := H; have A3 := Aside0.mk A30; clear A30
 by_cases c4 : t168 = true
 ·subst c4
  have H1 : ((spec_SetOk.f a1).bind fun t169 => (if t169 = true then ((spec_l4Reach.f k a0_0 a0_1 a0_2 l0_3 a1).bind fun t170 => (some t170)) else (some 0))) = some r := by rw [if_pos rfl] at H; exact H
  clear H; have H := H1; clear H1; replace H := Option.bind_eq_some_iff.mp H; obtain ⟨t169, A50, H⟩ := H; replace H : (if t169 = true then ((spec_l4Reach.f k a0_0 a0_1 a0_2 l0_3 a1).bind fun t170 => (some t170)) else (some 0)) = some r := H; have A5 := Aside0.mk A50; clear A50
  by_cases c6 : t169 = true
  ·subst c6
   have H1 : ((spec_l4Reach.f k a0_0 a0_1 a0_2 l0_3 a1).bind fun t170 => (some t170)) = some r := by rw [if_pos rfl] at H; exact H
   clear H; have H := H1; clear H1; replace H := Option.bind_eq_some_iff.mp H; obtain ⟨t170, A70, H⟩ := H; replace H : (some t170) = some r := H; have A7 := Aside0.mk A70; clear A70; obtain rfl := Option.some.inj H
   go_enter Try.func32, Try.ntmps32
   go_wp2_with (first | ((with_reducible refine gate_dst (N := 2) rfl ?_); refine box_event ?hg (N := 2) ?hd (cs := #[.int .i64 a0_0, .int .i64 a0_1, .int .i64 a0_2, .slice A0_3 l0_3.length c0_3]) (t := 24) ?hr ?_; (case hd => rfl); (case hg => rfl); (case hr => first | (go_simp; done) | (go_simp; rfl)); intro gb167 hg w8 hbox hb; have BK167 := Aside0.mk (hbox); have GW167 := xG HB hg; have GE167 := xG HB hg; replace HB := xS HB hb; clear hb hbox hg; have hcz9_0 : w8.cell? ⟨gb167, 0, none⟩ = some (.int .i64 a0_0) := b1 BK167 0; have hcz9_1 : w8.cell? ⟨gb167, 1, none⟩ = some (.int .i64 a0_1) := b1 BK167 1; have hcz9_2 : w8.cell? ⟨gb167, 2, none⟩ = some (.int .i64 a0_2) := b1 BK167 2; have hcz9_3 : w8.cell? ⟨gb167, 3, none⟩ = some (.slice A0_3 l0_3.length c0_3) := b1 BK167 3; have hfz9_0 := blk_frozen BK167.out 0; have hfz9_1 := blk_frozen BK167.out 1; have hfz9_2 := blk_frozen BK167.out 2; have hfz9_3 := blk_frozen BK167.out 3) | ((with_reducible refine gate_callee (f := 20) rfl ?_); refine goesL_ (some 6) rfl rfl Try.func20 (by kernel_rfl) rfl #[.agg #[.int .i64 a0_0, .int .i64 a0_1, .int .i64 a0_2, .slice A0_3 l0_3.length c0_3]] rfl (by (try simp only [m3]); first | done | rfl | (simp only [d2]; rfl)) ?_; (with_reducible refine (spec_AutoOk.calls k a0_0 a0_1 a0_2 _ _ l0_3 true _ ?side1 ?side2 A3.out).mono ?_); (case side1 => exact zC (Kd.C_below HR0_3.out HB.out)); (case side2 => exact HC0_3.out); rintro e w10 ⟨rfl, hb⟩; refine ⟨_, rfl, ?_⟩; replace BK167 := xB BK167 hb; replace HB := xS HB hb; (try clear hb); (try clear hb2); (try clear hk); (try clear hi)) | (go_at_call 42; (with_reducible refine (spec_SetOk.calls a1 true _ A5.out).mono ?_); rintro e w' ⟨rfl, ⟨nd, rfl⟩⟩; have hcz11_0 : w10.cell? ⟨gb167, 0, none⟩ = some (.int .i64 a0_0) := b1 BK167 0; have hcz11_1 : w10.cell? ⟨gb167, 1, none⟩ = some (.int .i64 a0_1) := b1 BK167 1; have hcz11_2 : w10.cell? ⟨gb167, 2, none⟩ = some (.int .i64 a0_2) := b1 BK167 2; have hcz11_3 : w10.cell? ⟨gb167, 3, none⟩ = some (.slice A0_3 l0_3.length c0_3) := b1 BK167 3; have hfz11_0 := blk_frozen BK167.out 0; have hfz11_1 := blk_frozen BK167.out 1; have hfz11_2 := blk_frozen BK167.out 2; have hfz11_3 := blk_frozen BK167.out 3) | ((with_reducible refine gate_callee (f := 80) rfl ?_); refine goesL_ (some 15) rfl rfl Try.func80 (by kernel_rfl) rfl #[.agg #[.int .i64 a0_0, .int .i64 a0_1, .int .i64 a0_2, .slice A0_3 l0_3.length c0_3], .int .i64 a1] rfl (by (try simp only [m3]); first | done | rfl | (simp only [d2]; rfl)) ?_; (with_reducible refine (spec_l4Reach.calls k a0_0 a0_1 a0_2 _ _ l0_3 a1 t170 _ ?side1 ?side2 A7.out).mono ?_); (case side1 => repeat (first | exact (Kd.C_below HR0_3.out (zS HB.out)) | (with_reducible refine Kd.C_alloc ?_ _) | (with_reducible refine Kd.C_drewN ?_ _) | (with_reducible refine Kd.C_drew ?_))); (case side2 => exact HC0_3.out); rintro e w12 ⟨rfl, hb⟩; refine ⟨_, rfl, ?_⟩; replace BK167 := xB BK167 hb; replace HB := xS HB hb; (try clear hb); (try clear hb2); (try clear hk); (try clear hi)))
   go_ret; exact ⟨by first | rfl | (simp [errW_none, errW_some] <;> rfl) | (simp [*, errW_none, errW_some] <;> rfl), by repeat (first | (with_reducible first | exact HB.out | apply below_alloc | apply pw_below_drewN | apply below_drew1 | refine below_set ?_ GE167.out) | exact HB.out)⟩
  ·replace c6 := Bool.eq_false_iff.mpr c6; subst c6
   have H1 : (some 0) = some r := by rw [if_neg (show ¬ (false = true) by decide)] at H; exact H
   clear H; have H := H1; clear H1; obtain rfl := Option.some.inj H
   go_enter Try.func32, Try.ntmps32
   go_wp2_with (first | ((with_reducible refine gate_dst (N := 2) rfl ?_); refine box_event ?hg (N := 2) ?hd (cs := #[.int .i64 a0_0, .int .i64 a0_1, .int .i64 a0_2, .slice A0_3 l0_3.length c0_3]) (t := 24) ?hr ?_; (case hd => rfl); (case hg => rfl); (case hr => first | (go_simp; done) | (go_simp; rfl)); intro gb167 hg w13 hbox hb; have BK167 := Aside0.mk (hbox); have GW167 := xG HB hg; have GE167 := xG HB hg; replace HB := xS HB hb; clear hb hbox hg; have hcz14_0 : w13.cell? ⟨gb167, 0, none⟩ = some (.int .i64 a0_0) := b1 BK167 0; have hcz14_1 : w13.cell? ⟨gb167, 1, none⟩ = some (.int .i64 a0_1) := b1 BK167 1; have hcz14_2 : w13.cell? ⟨gb167, 2, none⟩ = some (.int .i64 a0_2) := b1 BK167 2; have hcz14_3 : w13.cell? ⟨gb167, 3, none⟩ = some (.slice A0_3 l0_3.length c0_3) := b1 BK167 3; have hfz14_0 := blk_frozen BK167.out 0; have hfz14_1 := blk_frozen BK167.out 1; have hfz14_2 := blk_frozen BK167.out 2; have hfz14_3 := blk_frozen BK167.out 3) | ((with_reducible refine gate_callee (f := 20) rfl ?_); refine goesL_ (some 6) rfl rfl Try.func20 (by kernel_rfl) rfl #[.agg #[.int .i64 a0_0, .int .i64 a0_1, .int .i64 a0_2, .slice A0_3 l0_3.length c0_3]] rfl (by (try simp only [m3]); first | done | rfl | (simp only [d2]; rfl)) ?_; (with_reducible refine (spec_AutoOk.calls k a0_0 a0_1 a0_2 _ _ l0_3 true _ ?side1 ?side2 A3.out).mono ?_); (case side1 => exact zC (Kd.C_below HR0_3.out HB.out)); (case side2 => exact HC0_3.out); rintro e w15 ⟨rfl, hb⟩; refine ⟨_, rfl, ?_⟩; replace BK167 := xB BK167 hb; replace HB := xS HB hb; (try clear hb); (try clear hb2); (try clear hk); (try clear hi)) | (go_at_call 42; (with_reducible refine (spec_SetOk.calls a1 false _ A5.out).mono ?_); rintro e w' ⟨rfl, ⟨nd, rfl⟩⟩))
   go_ret; exact ⟨by first | rfl | (simp [errW_none, errW_some] <;> rfl) | (simp [*, errW_none, errW_some] <;> rfl), by repeat (first | (with_reducible first | exact HB.out | apply below_alloc | apply pw_below_drewN | apply below_drew1 | refine below_set ?_ GE167.out) | exact HB.out)⟩
 ·replace c4 := Bool.eq_false_iff.mpr c4; subst c4
  have H1 : (some 0) = some r := by rw [if_neg (show ¬ (false = true) by decide)] at H; exact H
  clear H; have H := H1; clear H1; obtain rfl := Option.some.inj H
  go_enter Try.func32, Try.ntmps32
  go_wp2_with (first | ((with_reducible refine gate_dst (N := 2) rfl ?_); refine box_event ?hg (N := 2) ?hd (cs := #[.int .i64 a0_0, .int .i64 a0_1, .int .i64 a0_2, .slice A0_3 l0_3.length c0_3]) (t := 24) ?hr ?_; (case hd => rfl); (case hg => rfl); (case hr => first | (go_simp; done) | (go_simp; rfl)); intro gb167 hg w16 hbox hb; have BK167 := Aside0.mk (hbox); have GW167 := xG HB hg; have GE167 := xG HB hg; replace HB := xS HB hb; clear hb hbox hg; have hcz17_0 : w16.cell? ⟨gb167, 0, none⟩ = some (.int .i64 a0_0) := b1 BK167 0; have hcz17_1 : w16.cell? ⟨gb167, 1, none⟩ = some (.int .i64 a0_1) := b1 BK167 1; have hcz17_2 : w16.cell? ⟨gb167, 2, none⟩ = some (.int .i64 a0_2) := b1 BK167 2; have hcz17_3 : w16.cell? ⟨gb167, 3, none⟩ = some (.slice A0_3 l0_3.length c0_3) := b1 BK167 3; have hfz17_0 := blk_frozen BK167.out 0; have hfz17_1 := blk_frozen BK167.out 1; have hfz17_2 := blk_frozen BK167.out 2; have hfz17_3 := blk_frozen BK167.out 3) | ((with_reducible refine gate_callee (f := 20) rfl ?_); refine goesL_ (some 6) rfl rfl Try.func20 (by kernel_rfl) rfl #[.agg #[.int .i64 a0_0, .int .i64 a0_1, .int .i64 a0_2, .slice A0_3 l0_3.length c0_3]] rfl (by (try simp only [m3]); first | done | rfl | (simp only [d2]; rfl)) ?_; (with_reducible refine (spec_AutoOk.calls k a0_0 a0_1 a0_2 _ _ l0_3 false _ ?side1 ?side2 A3.out).mono ?_); (case side1 => exact zC (Kd.C_below HR0_3.out HB.out)); (case side2 => exact HC0_3.out); rintro e w18 ⟨rfl, hb⟩; refine ⟨_, rfl, ?_⟩; replace BK167 := xB BK167 hb; replace HB := xS HB hb; (try clear hb); (try clear hb2); (try clear hk); (try clear hi)))
  go_ret; exact ⟨by first | rfl | (simp [errW_none, errW_some] <;> rfl) | (simp [*, errW_none, errW_some] <;> rfl), by repeat (first | (with_reducible first | exact HB.out | apply below_alloc | apply pw_below_drewN | apply below_drew1 | refine below_set ?_ GE167.out) | exact HB.out)⟩


/-! ### impl_Auto_reach: function 81 -/
mutual
def impl_Auto_reach.l0 : Nat → Int → Int → Int → Int → List (S68) → Option (Int × Int × Int × Int)
 | 0, _, _, _, _, _ => none
 | k + 1, x1, x1000, x1001, x1002, x1003 => impl_Auto_reach.l1 k x1 x1 x1003 (x1003.length : Int) 0 x1000 x1001 x1002 x1003
def impl_Auto_reach.l1 : Nat → Int → Int → List (S68) → Int → Int → Int → Int → Int → List (S68) → Option (Int × Int × Int × Int)
 | 0, _, _, _, _, _, _, _, _, _ => none
 | k + 1, x1, x5, x12, x13, x14, x1000, x1001, x1002, x1003 => if x14 < x13 then (if 0 ≤ x14 then (if x14 < (x12.length : Int) then ((impl_has.f x5 ((rd_T68 x12 x14).f0)).bind fun t173 => (if t173 = true then ((impl_only.f ((rd_T68 x12 x14).f2)).bind fun t174 => (impl_Auto_reach.l1 k x1 (Go.bits .or .i64 x5 t174) x12 x13 (wrap64 (x14 + 1)) x1000 x1001 x1002 x1003)) else (impl_Auto_reach.l1 k x1 x5 x12 x13 (wrap64 (x14 + 1)) x1000 x1001 x1002 x1003))) else (none)) else (none)) else (if x5 = x1 then (some (x1, x1000, x1001, x1002)) else (impl_Auto_reach.l0 k x5 x1000 x1001 x1002 x1003))
end
def impl_Auto_reach.f (k : Nat) (s0_0 : Int) (s0_1 : Int) (s0_2 : Int) (s0_3 : List (S68)) (a1 : Int) : Option (Int × Int × Int × Int) := impl_Auto_reach.l0 k a1 s0_0 s0_1 s0_2 s0_3
theorem impl_Auto_reach.mono_l : ∀ k, (∀ y0 y1 y2 y3 y4, LeO (impl_Auto_reach.l0 k y0 y1 y2 y3 y4) (impl_Auto_reach.l0 (k + 1) y0 y1 y2 y3 y4)) ∧ (∀ y0 y1 y2 y3 y4 y5 y6 y7 y8, LeO (impl_Auto_reach.l1 k y0 y1 y2 y3 y4 y5 y6 y7 y8) (impl_Auto_reach.l1 (k + 1) y0 y1 y2 y3 y4 y5 y6 y7 y8))
 | 0 => ⟨fun _ _ _ _ _ r h => by simp [impl_Auto_reach.l0] at h, fun _ _ _ _ _ _ _ _ _ r h => by simp [impl_Auto_reach.l1] at h⟩
 | k + 1 => by
  obtain ⟨ih0, ih1⟩ := impl_Auto_reach.mono_l k
  refine ⟨?_, ?_⟩
  ·intro y0 y1 y2 y3 y4
   unfold impl_Auto_reach.l0
   repeat' first
   | (with_reducible exact ih0 _ _ _ _ _)
   | (with_reducible exact ih1 _ _ _ _ _ _ _ _ _)
   | (with_reducible exact LeO.refl _)
   | (with_reducible exact LeO.none _)
   | (with_reducible refine LeO.ite ?_ ?_)
   | (with_reducible refine LeO.bind ?_ (fun _ => ?_))
   | exact ih0 _ _ _ _ _
   | exact ih1 _ _ _ _ _ _ _ _ _
   | exact LeO.none _
   | refine LeO.ite ?_ ?_
   | refine LeO.bind ?_ (fun _ => ?_)
  ·intro y0 y1 y2 y3 y4 y5 y6 y7 y8
   unfold impl_Auto_reach.l1
   repeat' first
   | (with_reducible exact ih0 _ _ _ _ _)
   | (with_reducible exact ih1 _ _ _ _ _ _ _ _ _)
   | (with_reducible exact LeO.refl _)
   | (with_reducible exact LeO.none _)
   | (with_reducible refine LeO.ite ?_ ?_)
   | (with_reducible refine LeO.bind ?_ (fun _ => ?_))
   | exact ih0 _ _ _ _ _
   | exact ih1 _ _ _ _ _ _ _ _ _
   | exact LeO.none _
   | refine LeO.ite ?_ ?_
   | refine LeO.bind ?_ (fun _ => ?_)
theorem impl_Auto_reach.mono : ∀ a0 a1 a2 a3 a4 k, LeO (impl_Auto_reach.f k a0 a1 a2 a3 a4) (impl_Auto_reach.f (k + 1) a0 a1 a2 a3 a4) := by
 intro a0 a1 a2 a3 a4 k
 obtain ⟨ih0, ih1⟩ := impl_Auto_reach.mono_l k
 unfold impl_Auto_reach.f
 repeat' first
   | (with_reducible exact ih0 _ _ _ _ _)
   | (with_reducible exact ih1 _ _ _ _ _ _ _ _ _)
   | (with_reducible exact LeO.refl _)
   | (with_reducible exact LeO.none _)
   | (with_reducible refine LeO.ite ?_ ?_)
   | (with_reducible refine LeO.bind ?_ (fun _ => ?_))
   | exact ih0 _ _ _ _ _
   | exact ih1 _ _ _ _ _ _ _ _ _
   | exact LeO.none _
   | refine LeO.ite ?_ ?_
   | refine LeO.bind ?_ (fun _ => ?_)
open Go.Proofs.Ytlallflpicgcmaa.Short2 in
set_option maxHeartbeats 8000000 in
set_option maxRecDepth 100000 in
theorem impl_Auto_reach.calls (k : Nat) (g : Nat) (s0_0 : Int) (s0_1 : Int) (s0_2 : Int) (s0_3 : List (S68)) (a1 : Int) (r1 : Int) (r2 : Int) (r3 : Int) (r4 : Int) (w0 w : World) (hI : IsS24 w0 w g s0_0 s0_1 s0_2 s0_3) (hB : Below w0.heap.size w0 w) (h : impl_Auto_reach.f k s0_0 s0_1 s0_2 s0_3 a1 = some (r1, r2, r3, r4)) :
  Calls Try.prog 81 #[.pointer (some ⟨g, 0, none⟩), .int .i64 a1] w fun e w' => e = .returned (.int .i64 r1) ∧ IsS24 w0 w' g r2 r3 r4 s0_3 ∧ Below w0.heap.size w0 w' ∧ KeepBut w w' g none := by
 have hu68 := Try.underlying68; have HI0 := Aside0.mk hI; have HK := Aside0.mk (KeepBut.refl w g none); have HL := Aside0.mk hB.size; clear hI; have HW0 := Aside0.mk hB.size; have HB := Aside0.mk hB; clear hB; have H : (impl_Auto_reach.l0 k a1 s0_0 s0_1 s0_2 s0_3) = some (r1, r2, r3, r4) := h; clear h; have H' := Aside0.mk H; clear H
 go_enter Try.func81, Try.ntmps81
 go_wp2
 go_loopg [1] k (fun kq v1 w' => ∃ (x1_1 : Int), v1 = .int .i64 x1_1 ∧ Aside0 (impl_Auto_reach.l0 kq x1_1 s0_0 s0_1 s0_2 s0_3 = some (r1, r2, r3, r4)) ∧ Aside0 (kq ≤ k) ∧ Aside0 (IsS24 w0 w' g s0_0 s0_1 s0_2 s0_3) ∧ Aside0 (KeepBut w w' g none) ∧ Aside0 (Below w0.heap.size w0 w'))
 case atStart => exact ⟨(a1), (by first | rfl | (simp; done) | (simp [*]; done) | (rw [Int.tmod_eq_emod_of_nonneg (Int.natCast_nonneg _)]; done)), H', ⟨Nat.le_refl _⟩, ⟨by repeat (first | (with_reducible first | exact HI0.out | apply IsS24.alloc | apply IsS24.drewN | apply IsS24.drew | apply IsS24.set_0 | apply IsS24.set_1 | apply IsS24.set_2) | exact HI0.out)⟩, ⟨by repeat (first | (with_reducible first | exact HK.out | apply KeepBut.set_ | apply keep_drewN | apply keep_drew | apply keep_alloc) | exact HK.out)⟩, ⟨by repeat (first | (with_reducible first | exact HB.out | apply below_alloc | apply pw_below_drewN | apply below_drew1 | refine below_set ?_ (IsS24.ge HI0.out)) | exact HB.out)⟩⟩
 case round =>
  clear H'
  try clear p2
  obtain ⟨x1_1, rfl, HA, HK1, HI0, HK, HB⟩ := hrel
  cases gk with
  | zero => exact absurd HA.out (by simp [impl_Auto_reach.l0])
  | succ k1 =>
   have H := HA.out; clear HA; simp only [impl_Auto_reach.l0] at H; have H' := Aside0.mk H; clear H; obtain ⟨ASz3_3, cSz3_3, HGz3, hgz3, HSz3_3⟩ := HI0.out; have hcz3_0 := cellS24_0 HGz3; have hcz3_1 := cellS24_1 HGz3; have hcz3_2 := cellS24_2 HGz3; have hcz3_3 := cellS24_3 HGz3; have hfz3_0 := blk_frozen HGz3 0; have hfz3_1 := blk_frozen HGz3 1; have hfz3_2 := blk_frozen HGz3 2; clear HGz3 hgz3
   go_wp2
   go_loopg [5, 14] k1 (fun kq v5 v14 w' => ∃ (x5_2 : Int) (x14_2 : Int), v5 = .int .i64 x5_2 ∧ v14 = .int .i64 x14_2 ∧ Aside0 (impl_Auto_reach.l1 kq x1_1 x5_2 s0_3 (s0_3.length : Int) x14_2 s0_0 s0_1 s0_2 s0_3 = some (r1, r2, r3, r4)) ∧ Aside0 (kq ≤ k1) ∧ Aside0 (IsS24 w0 w' g s0_0 s0_1 s0_2 s0_3) ∧ Aside0 (KeepBut w w' g none) ∧ Aside0 (Below w0.heap.size w0 w'))
   case atStart => exact ⟨(x1_1), (0), (by first | rfl | (simp; done) | (simp [*]; done) | (rw [Int.tmod_eq_emod_of_nonneg (Int.natCast_nonneg _)]; done)), (by first | rfl | (simp; done) | (simp [*]; done) | (rw [Int.tmod_eq_emod_of_nonneg (Int.natCast_nonneg _)]; done)), H', ⟨Nat.le_refl _⟩, ⟨by repeat (first | (with_reducible first | exact HI0.out | apply IsS24.alloc | apply IsS24.drewN | apply IsS24.drew | apply IsS24.set_0 | apply IsS24.set_1 | apply IsS24.set_2) | exact HI0.out)⟩, ⟨by repeat (first | (with_reducible first | exact HK.out | apply KeepBut.set_ | apply keep_drewN | apply keep_drew | apply keep_alloc) | exact HK.out)⟩, ⟨by repeat (first | (with_reducible first | exact HB.out | apply below_alloc | apply pw_below_drewN | apply below_drew1 | refine below_set ?_ (IsS24.ge HI0.out)) | exact HB.out)⟩⟩
   case round =>
    clear H'
    try clear p2
    try clear hcz3_0
    try clear hcz3_1
    try clear hcz3_2
    try clear hcz3_3
    try clear hfz3_0
    try clear hfz3_1
    try clear hfz3_2
    try clear p2
    obtain ⟨x5_2, x14_2, rfl, rfl, HA, HK2, HI0, HK, HB⟩ := hrel
    cases gk with
    | zero => exact absurd HA.out (by simp [impl_Auto_reach.l1])
    | succ k2 =>
     have H := HA.out; clear HA; simp only [impl_Auto_reach.l1] at H
     by_cases c4 : x14_2 < (s0_3.length : Int)
     ·rw [if_pos c4] at H; have c4b0 : decide (x14_2 < (s0_3.length : Int)) = true := decide_eq_true c4; clear c4
      by_cases c5 : 0 ≤ x14_2
      ·rw [if_pos c5] at H; have c5b0 : decide (0 ≤ x14_2) = true := decide_eq_true c5; clear c5
       by_cases c6 : x14_2 < (s0_3.length : Int)
       ·rw [if_pos c6] at H; have c6b0 : decide (x14_2 < (s0_3.length : Int)) = true := decide_eq_true c6; clear c6; replace H := Option.bind_eq_some_iff.mp H; obtain ⟨t173, A70, H⟩ := H; replace H : (if t173 = true then ((impl_only.f ((rd_T68 s0_3 x14_2).f2)).bind fun t174 => (impl_Auto_reach.l1 k2 x1_1 (Go.bits .or .i64 x5_2 t174) s0_3 (s0_3.length : Int) (wrap64 (x14_2 + 1)) s0_0 s0_1 s0_2 s0_3)) else (impl_Auto_reach.l1 k2 x1_1 x5_2 s0_3 (s0_3.length : Int) (wrap64 (x14_2 + 1)) s0_0 s0_1 s0_2 s0_3)) = some (r1, r2, r3, r4) := H; have A7 := Aside0.mk A70; clear A70
        by_cases c8 : t173 = true
        ·subst c8
         have H1 : ((impl_only.f ((rd_T68 s0_3 x14_2).f2)).bind fun t174 => (impl_Auto_reach.l1 k2 x1_1 (Go.bits .or .i64 x5_2 t174) s0_3 (s0_3.length : Int) (wrap64 (x14_2 + 1)) s0_0 s0_1 s0_2 s0_3)) = some (r1, r2, r3, r4) := by rw [if_pos rfl] at H; exact H
         clear H; have H := H1; clear H1; replace H := Option.bind_eq_some_iff.mp H; obtain ⟨t174, A90, H⟩ := H; replace H : (impl_Auto_reach.l1 k2 x1_1 (Go.bits .or .i64 x5_2 t174) s0_3 (s0_3.length : Int) (wrap64 (x14_2 + 1)) s0_0 s0_1 s0_2 s0_3) = some (r1, r2, r3, r4) := H; have A9 := Aside0.mk A90; clear A90; have H' := Aside0.mk H; clear H; obtain ⟨ASz10_3, cSz10_3, HGz10, hgz10, HSz10_3⟩ := HI0.out; have hcz10_0 := cellS24_0 HGz10; have hcz10_1 := cellS24_1 HGz10; have hcz10_2 := cellS24_2 HGz10; have hcz10_3 := cellS24_3 HGz10; have hfz10_0 := blk_frozen HGz10 0; have hfz10_1 := blk_frozen HGz10 1; have hfz10_2 := blk_frozen HGz10 2; clear HGz10 hgz10; have p171 : 0 ≤ (x14_2 : Int) := oD; have q171 : x14_2 < (s0_3.length : Int) := oD; obtain ⟨ad171, e171, hx171_0, hx171_1, hx171_2, hx171_3⟩ := at_T68 HSz10_3 x14_2 p171 q171
         cases e171
         replace hx171_0 := pw_cell_below HB.out hx171_0; replace hx171_1 := pw_cell_below HB.out hx171_1; replace hx171_2 := pw_cell_below HB.out hx171_2; replace hx171_3 := pw_cell_below HB.out hx171_3
         (try (obtain ⟨ad171zz3, e171zz3, hx171_0zz3, hx171_1zz3, hx171_2zz3, hx171_3zz3⟩ := at_T68 HSz3_3 x14_2 p171 q171; cases e171zz3; replace hx171_0zz3 := pw_cell_below HB.out hx171_0zz3; replace hx171_1zz3 := pw_cell_below HB.out hx171_1zz3; replace hx171_2zz3 := pw_cell_below HB.out hx171_2zz3; replace hx171_3zz3 := pw_cell_below HB.out hx171_3zz3))
         replace p171 := eq_true p171; replace q171 := eq_true q171
         go_wp2_with (first | ((with_reducible refine gate_dst (N := 7) rfl ?_); refine box_event ?hg (N := 7) ?hd (cs := #[.int .i64 0, .int .i64 0, .int .i64 0, .bool false]) (t := 68) ?hr ?_; (case hd => rfl); (case hg => rfl); (case hr => first | (go_simp; done) | (go_simp; rfl)); intro gb172 hg w11 hbox hb; have n0_ := Aside0.mk (IsS24.below (by repeat (first | (with_reducible first | exact HI0.out | apply IsS24.alloc | apply IsS24.drewN | apply IsS24.drew | apply IsS24.set_0 | apply IsS24.set_1 | apply IsS24.set_2) | exact HI0.out)) hb); have n1_ := Aside0.mk (KeepBut.trans (by repeat (first | (with_reducible first | exact HK.out | apply KeepBut.set_ | apply keep_drewN | apply keep_drew | apply keep_alloc) | exact HK.out)) (KeepBut.of_below hb g none) (.inl rfl)); have n2_ := Aside0.mk (below_step (by repeat (first | (with_reducible first | exact HB.out | apply below_alloc | apply pw_below_drewN | apply below_drew1 | refine below_set ?_ (IsS24.ge HI0.out)) | exact HB.out)) hb); have n3_ := Aside0.mk (hbox); have n4_ := Aside0.mk ((by rw [hg]; exact (keep_size (w := w) (g := g) (row := none) (by repeat (first | (with_reducible first | exact HK.out | apply KeepBut.set_ | apply keep_drewN | apply keep_drew | apply keep_alloc) | exact HK.out))) : w.heap.size ≤ gb172)); have n5_ := Aside0.mk ((Nat.le_trans HW0.out (by rw [hg]; exact (keep_size (w := w) (g := g) (row := none) (by repeat (first | (with_reducible first | exact HK.out | apply KeepBut.set_ | apply keep_drewN | apply keep_drew | apply keep_alloc) | exact HK.out))) : w.heap.size ≤ gb172) : w0.heap.size ≤ gb172)); have n6_ := Aside0.mk ((by rw [hg]; exact Nat.ne_of_lt (IsS24.lt (show IsS24 w0 _ g s0_0 s0_1 s0_2 s0_3 from by repeat (first | (with_reducible first | exact HI0.out | apply IsS24.alloc | apply IsS24.drewN | apply IsS24.drew | apply IsS24.set_0 | apply IsS24.set_1 | apply IsS24.set_2) | exact HI0.out))) : g ≠ gb172)); have n7_ := Aside0.mk ((by rw [hg]; exact Nat.ne_of_gt (IsS24.lt (show IsS24 w0 _ g s0_0 s0_1 s0_2 s0_3 from by repeat (first | (with_reducible first | exact HI0.out | apply IsS24.alloc | apply IsS24.drewN | apply IsS24.drew | apply IsS24.set_0 | apply IsS24.set_1 | apply IsS24.set_2) | exact HI0.out))) : gb172 ≠ g)); clear HI0; clear HK; clear HB; have HI0 := n0_; have HK := n1_; have HB := n2_; have BK172 := n3_; have GW172 := n4_; have GE172 := n5_; have NB0_172 := n6_; have NB172_0 := n7_; clear n0_ n1_ n2_ n3_ n4_ n5_ n6_ n7_; clear hb hbox hg; have hnb12 := NB172_0.out; have hnc12 := NB0_172.out; have hcz13_0 : w11.cell? ⟨gb172, 0, none⟩ = some (.int .i64 0) := b1 BK172 0; have hcz13_1 : w11.cell? ⟨gb172, 1, none⟩ = some (.int .i64 0) := b1 BK172 1; have hcz13_2 : w11.cell? ⟨gb172, 2, none⟩ = some (.int .i64 0) := b1 BK172 2; have hcz13_3 : w11.cell? ⟨gb172, 3, none⟩ = some (.bool false) := b1 BK172 3; have hfz13_0 := blk_frozen BK172.out 0; have hfz13_1 := blk_frozen BK172.out 1; have hfz13_2 := blk_frozen BK172.out 2; have hfz13_3 := blk_frozen BK172.out 3) | ((with_reducible refine gate_callee (f := 110) rfl ?_); refine goesL_ (some 21) rfl rfl Try.func110 (by kernel_rfl) rfl #[.int .i64 x5_2, .int .i64 ((rd_T68 s0_3 x14_2).f0)] rfl (by (try simp only [m3]); first | done | rfl | (simp only [d2]; rfl)) ?_; (with_reducible refine (impl_has.calls x5_2 ((rd_T68 s0_3 x14_2).f0) true _ A7.out).mono ?_); rintro e w' ⟨rfl, ⟨nd, rfl⟩⟩; refine ⟨_, rfl, ?_⟩) | ((with_reducible refine gate_callee (f := 74) rfl ?_); refine goesL_ (some 25) rfl rfl Try.func74 (by kernel_rfl) rfl #[.int .i64 ((rd_T68 s0_3 x14_2).f2)] rfl (by (try simp only [m3]); first | done | rfl | (simp only [d2]; rfl)) ?_; (with_reducible refine (impl_only.calls ((rd_T68 s0_3 x14_2).f2) t174 _ A9.out).mono ?_); rintro e w' ⟨rfl, ⟨nd, rfl⟩⟩; refine ⟨_, rfl, ?_⟩))
         go_roundg k2
         case measure => have := HK1.out; have := HK2.out; omega
         case rel => exact ⟨(Go.bits .or .i64 x5_2 t174), (wrap64 (x14_2 + 1)), (by first | rfl | (simp; done) | (simp [*]; done) | (rw [Int.tmod_eq_emod_of_nonneg (Int.natCast_nonneg _)]; done)), (by first | rfl | (simp; done) | (simp [*]; done) | (rw [Int.tmod_eq_emod_of_nonneg (Int.natCast_nonneg _)]; done)), H', ⟨by have := HK1.out; have := HK2.out; omega⟩, ⟨by repeat (first | (with_reducible first | exact HI0.out | apply IsS24.alloc | apply IsS24.drewN | apply IsS24.drew | apply IsS24.set_0 | apply IsS24.set_1 | apply IsS24.set_2 | refine IsS24.far ?_ NB0_172.out _) | exact HI0.out)⟩, ⟨by repeat (first | (with_reducible first | exact HK.out | apply KeepBut.set_ | apply keep_drewN | apply keep_drew | apply keep_alloc | refine keep_far ?_ GW172.out _) | exact HK.out)⟩, ⟨by repeat (first | (with_reducible first | exact HB.out | apply below_alloc | apply pw_below_drewN | apply below_drew1 | refine below_set ?_ (IsS24.ge HI0.out) | refine below_set ?_ GE172.out) | exact HB.out)⟩⟩
        ·replace c8 := Bool.eq_false_iff.mpr c8; subst c8
         have H1 : (impl_Auto_reach.l1 k2 x1_1 x5_2 s0_3 (s0_3.length : Int) (wrap64 (x14_2 + 1)) s0_0 s0_1 s0_2 s0_3) = some (r1, r2, r3, r4) := by rw [if_neg (show ¬ (false = true) by decide)] at H; exact H
         clear H; have H := H1; clear H1; have H' := Aside0.mk H; clear H; obtain ⟨ASz14_3, cSz14_3, HGz14, hgz14, HSz14_3⟩ := HI0.out; have hcz14_0 := cellS24_0 HGz14; have hcz14_1 := cellS24_1 HGz14; have hcz14_2 := cellS24_2 HGz14; have hcz14_3 := cellS24_3 HGz14; have hfz14_0 := blk_frozen HGz14 0; have hfz14_1 := blk_frozen HGz14 1; have hfz14_2 := blk_frozen HGz14 2; clear HGz14 hgz14; have p171 : 0 ≤ (x14_2 : Int) := oD; have q171 : x14_2 < (s0_3.length : Int) := oD; obtain ⟨ad171, e171, hx171_0, hx171_1, hx171_2, hx171_3⟩ := at_T68 HSz14_3 x14_2 p171 q171
         cases e171
         replace hx171_0 := pw_cell_below HB.out hx171_0; replace hx171_1 := pw_cell_below HB.out hx171_1; replace hx171_2 := pw_cell_below HB.out hx171_2; replace hx171_3 := pw_cell_below HB.out hx171_3
         (try (obtain ⟨ad171zz3, e171zz3, hx171_0zz3, hx171_1zz3, hx171_2zz3, hx171_3zz3⟩ := at_T68 HSz3_3 x14_2 p171 q171; cases e171zz3; replace hx171_0zz3 := pw_cell_below HB.out hx171_0zz3; replace hx171_1zz3 := pw_cell_below HB.out hx171_1zz3; replace hx171_2zz3 := pw_cell_below HB.out hx171_2zz3; replace hx171_3zz3 := pw_cell_below HB.out hx171_3zz3))
         (try (obtain ⟨ad171zz10, e171zz10, hx171_0zz10, hx171_1zz10, hx171_2zz10, hx171_3zz10⟩ := at_T68 HSz10_3 x14_2 p171 q171; cases e171zz10; replace hx171_0zz10 := pw_cell_below HB.out hx171_0zz10; replace hx171_1zz10 := pw_cell_below HB.out hx171_1zz10; replace hx171_2zz10 := pw_cell_below HB.out hx171_2zz10; replace hx171_3zz10 := pw_cell_below HB.out hx171_3zz10))
         replace p171 := eq_true p171; replace q171 := eq_true q171
         go_wp2_with (first | ((with_reducible refine gate_dst (N := 7) rfl ?_); refine box_event ?hg (N := 7) ?hd (cs := #[.int .i64 0, .int .i64 0, .int .i64 0, .bool false]) (t := 68) ?hr ?_; (case hd => rfl); (case hg => rfl); (case hr => first | (go_simp; done) | (go_simp; rfl)); intro gb172 hg w15 hbox hb; have n0_ := Aside0.mk (IsS24.below (by repeat (first | (with_reducible first | exact HI0.out | apply IsS24.alloc | apply IsS24.drewN | apply IsS24.drew | apply IsS24.set_0 | apply IsS24.set_1 | apply IsS24.set_2) | exact HI0.out)) hb); have n1_ := Aside0.mk (KeepBut.trans (by repeat (first | (with_reducible first | exact HK.out | apply KeepBut.set_ | apply keep_drewN | apply keep_drew | apply keep_alloc) | exact HK.out)) (KeepBut.of_below hb g none) (.inl rfl)); have n2_ := Aside0.mk (below_step (by repeat (first | (with_reducible first | exact HB.out | apply below_alloc | apply pw_below_drewN | apply below_drew1 | refine below_set ?_ (IsS24.ge HI0.out)) | exact HB.out)) hb); have n3_ := Aside0.mk (hbox); have n4_ := Aside0.mk ((by rw [hg]; exact (keep_size (w := w) (g := g) (row := none) (by repeat (first | (with_reducible first | exact HK.out | apply KeepBut.set_ | apply keep_drewN | apply keep_drew | apply keep_alloc) | exact HK.out))) : w.heap.size ≤ gb172)); have n5_ := Aside0.mk ((Nat.le_trans HW0.out (by rw [hg]; exact (keep_size (w := w) (g := g) (row := none) (by repeat (first | (with_reducible first | exact HK.out | apply KeepBut.set_ | apply keep_drewN | apply keep_drew | apply keep_alloc) | exact HK.out))) : w.heap.size ≤ gb172) : w0.heap.size ≤ gb172)); have n6_ := Aside0.mk ((by rw [hg]; exact Nat.ne_of_lt (IsS24.lt (show IsS24 w0 _ g s0_0 s0_1 s0_2 s0_3 from by repeat (first | (with_reducible first | exact HI0.out | apply IsS24.alloc | apply IsS24.drewN | apply IsS24.drew | apply IsS24.set_0 | apply IsS24.set_1 | apply IsS24.set_2) | exact HI0.out))) : g ≠ gb172)); have n7_ := Aside0.mk ((by rw [hg]; exact Nat.ne_of_gt (IsS24.lt (show IsS24 w0 _ g s0_0 s0_1 s0_2 s0_3 from by repeat (first | (with_reducible first | exact HI0.out | apply IsS24.alloc | apply IsS24.drewN | apply IsS24.drew | apply IsS24.set_0 | apply IsS24.set_1 | apply IsS24.set_2) | exact HI0.out))) : gb172 ≠ g)); clear HI0; clear HK; clear HB; have HI0 := n0_; have HK := n1_; have HB := n2_; have BK172 := n3_; have GW172 := n4_; have GE172 := n5_; have NB0_172 := n6_; have NB172_0 := n7_; clear n0_ n1_ n2_ n3_ n4_ n5_ n6_ n7_; clear hb hbox hg; have hnb16 := NB172_0.out; have hnc16 := NB0_172.out; have hcz17_0 : w15.cell? ⟨gb172, 0, none⟩ = some (.int .i64 0) := b1 BK172 0; have hcz17_1 : w15.cell? ⟨gb172, 1, none⟩ = some (.int .i64 0) := b1 BK172 1; have hcz17_2 : w15.cell? ⟨gb172, 2, none⟩ = some (.int .i64 0) := b1 BK172 2; have hcz17_3 : w15.cell? ⟨gb172, 3, none⟩ = some (.bool false) := b1 BK172 3; have hfz17_0 := blk_frozen BK172.out 0; have hfz17_1 := blk_frozen BK172.out 1; have hfz17_2 := blk_frozen BK172.out 2; have hfz17_3 := blk_frozen BK172.out 3) | ((with_reducible refine gate_callee (f := 110) rfl ?_); refine goesL_ (some 21) rfl rfl Try.func110 (by kernel_rfl) rfl #[.int .i64 x5_2, .int .i64 ((rd_T68 s0_3 x14_2).f0)] rfl (by (try simp only [m3]); first | done | rfl | (simp only [d2]; rfl)) ?_; (with_reducible refine (impl_has.calls x5_2 ((rd_T68 s0_3 x14_2).f0) false _ A7.out).mono ?_); rintro e w' ⟨rfl, ⟨nd, rfl⟩⟩; refine ⟨_, rfl, ?_⟩))
         go_roundg k2
         case measure => have := HK1.out; have := HK2.out; omega
         case rel => exact ⟨(x5_2), (wrap64 (x14_2 + 1)), (by first | rfl | (simp; done) | (simp [*]; done) | (rw [Int.tmod_eq_emod_of_nonneg (Int.natCast_nonneg _)]; done)), (by first | rfl | (simp; done) | (simp [*]; done) | (rw [Int.tmod_eq_emod_of_nonneg (Int.natCast_nonneg _)]; done)), H', ⟨by have := HK1.out; have := HK2.out; omega⟩, ⟨by repeat (first | (with_reducible first | exact HI0.out | apply IsS24.alloc | apply IsS24.drewN | apply IsS24.drew | apply IsS24.set_0 | apply IsS24.set_1 | apply IsS24.set_2 | refine IsS24.far ?_ NB0_172.out _) | exact HI0.out)⟩, ⟨by repeat (first | (with_reducible first | exact HK.out | apply KeepBut.set_ | apply keep_drewN | apply keep_drew | apply keep_alloc | refine keep_far ?_ GW172.out _) | exact HK.out)⟩, ⟨by repeat (first | (with_reducible first | exact HB.out | apply below_alloc | apply pw_below_drewN | apply below_drew1 | refine below_set ?_ (IsS24.ge HI0.out) | refine below_set ?_ GE172.out) | exact HB.out)⟩⟩
       ·rw [if_neg c6] at H; exact absurd H (by simp)
      ·rw [if_neg c5] at H; exact absurd H (by simp)
     ·rw [if_neg c4] at H; have c4b0 : decide (x14_2 < (s0_3.length : Int)) = false := decide_eq_false c4; clear c4
      by_cases c18 : x5_2 = x1_1
      ·rw [if_pos c18] at H; have c18b0 : (x5_2 == x1_1) = true := beq_iff_eq.mpr c18; have c18b1 : (x5_2 != x1_1) = false := bne_eq_false_iff_eq.mpr c18; clear c18; simp only [Option.some.injEq, Prod.mk.injEq] at H; obtain ⟨rfl, rfl, rfl, rfl⟩ := H
       go_wp2
       go_ret; exact ⟨by first | rfl | (simp [errW_none, errW_some] <;> rfl) | (simp [*, errW_none, errW_some] <;> rfl), by repeat (first | (with_reducible first | exact HI0.out | apply IsS24.alloc | apply IsS24.drewN | apply IsS24.drew | apply IsS24.set_0 | apply IsS24.set_1 | apply IsS24.set_2) | exact HI0.out), by repeat (first | (with_reducible first | exact HB.out | apply below_alloc | apply pw_below_drewN | apply below_drew1 | refine below_set ?_ (IsS24.ge HI0.out)) | exact HB.out), by repeat (first | (with_reducible first | exact HK.out | apply KeepBut.set_ | apply keep_drewN | apply keep_drew | apply keep_alloc) | exact HK.out)⟩
      ·rw [if_neg c18] at H; have c18b0 : (x5_2 == x1_1) = false := beq_eq_false_iff_ne.mpr c18; have c18b1 : (x5_2 != x1_1) = true := bne_iff_ne.mpr c18; have H' := Aside0.mk H; clear H
       go_wp2
       go_roundg k2
       case measure => have := HK1.out; have := HK2.out; omega
       case rel => exact ⟨(x5_2), (by first | rfl | (simp; done) | (simp [*]; done) | (rw [Int.tmod_eq_emod_of_nonneg (Int.natCast_nonneg _)]; done)), H', ⟨by have := HK1.out; have := HK2.out; omega⟩, ⟨by repeat (first | (with_reducible first | exact HI0.out | apply IsS24.alloc | apply IsS24.drewN | apply IsS24.drew | apply IsS24.set_0 | apply IsS24.set_1 | apply IsS24.set_2) | exact HI0.out)⟩, ⟨by repeat (first | (with_reducible first | exact HK.out | apply KeepBut.set_ | apply keep_drewN | apply keep_drew | apply keep_alloc) | exact HK.out)⟩, ⟨by repeat (first | (with_reducible first | exact HB.out | apply below_alloc | apply pw_below_drewN | apply below_drew1 | refine below_set ?_ (IsS24.ge HI0.out)) | exact HB.out)⟩⟩


/-! ### impl_AutoReach: function 33 -/
def impl_AutoReach.f (k : Nat) (a0_0 : Int) (a0_1 : Int) (a0_2 : Int) (l0_3 : List (S68)) (a1 : Int) : Option (Int) := (impl_SetOk.f a1).bind fun t176 => (if t176 = true then ((impl_AutoOk.f k a0_0 a0_1 a0_2 l0_3).bind fun t177 => (if t177 = true then ((impl_Auto_reach.f k a0_0 a0_1 a0_2 l0_3 a1).bind fun bt178 => (some bt178.1)) else (some 0))) else (some 0))
theorem impl_AutoReach.mono : ∀ a0 a1 a2 a3 a4 k, LeO (impl_AutoReach.f k a0 a1 a2 a3 a4) (impl_AutoReach.f (k + 1) a0 a1 a2 a3 a4) := by
 intro a0 a1 a2 a3 a4 k
 unfold impl_AutoReach.f
 repeat' first
   | (with_reducible exact impl_AutoOk.mono _ _ _ _ _)
   | (with_reducible exact impl_Auto_reach.mono _ _ _ _ _ _)
   | (with_reducible exact LeO.refl _)
   | (with_reducible exact LeO.none _)
   | (with_reducible refine LeO.ite ?_ ?_)
   | (with_reducible refine LeO.bind ?_ (fun _ => ?_))
   | exact impl_AutoOk.mono _ _ _ _ _
   | exact impl_Auto_reach.mono _ _ _ _ _ _
   | exact LeO.none _
   | refine LeO.ite ?_ ?_
   | refine LeO.bind ?_ (fun _ => ?_)
open Go.Proofs.Ytlallflpicgcmaa.Short2 in
set_option maxHeartbeats 8000000 in
set_option maxRecDepth 100000 in
theorem impl_AutoReach.calls (k : Nat) (a0_0 : Int) (a0_1 : Int) (a0_2 : Int) (A0_3 : Option Addr) (c0_3 : Nat) (l0_3 : List (S68)) (a1 : Int) (r : Int) (w : World) (hr0_3 : Kd.C k68 w A0_3 l0_3.length l0_3) (hc0_3 : l0_3.length ≤ c0_3) (h : impl_AutoReach.f k a0_0 a0_1 a0_2 l0_3 a1 = some r) :
  Calls Try.prog 33 #[.agg #[.int .i64 a0_0, .int .i64 a0_1, .int .i64 a0_2, .slice A0_3 l0_3.length c0_3], .int .i64 a1] w fun e w' => e = .returned (.int .i64 r) ∧ Below w.heap.size w w' := by
 have hu24 := Try.underlying24; have HR0_3 := Aside0.mk hr0_3; have HC0_3 := Aside0.mk hc0_3; clear hr0_3 hc0_3; have HB := Aside0.mk (Below.refl w.heap.size w); have H : ((impl_SetOk.f a1).bind fun t176 => (if t176 = true then ((impl_AutoOk.f k a0_0 a0_1 a0_2 l0_3).bind fun t177 => (if t177 = true then ((impl_Auto_reach.f k a0_0 a0_1 a0_2 l0_3 a1).bind fun bt178 => (some bt178.1)) else (some 0))) else (some 0))) = some r := h; clear h; replace H := Option.bind_eq_some_iff.mp H; obtain ⟨t176, A30, H⟩ := H; replace H : (if t176 = true then ((impl_AutoOk.f k a0_0 a0_1 a0_2 l0_3).bind fun t177 => (if t177 = true then ((impl_Auto_reach.f k a0_0 a0_1 a0_2 l0_3 a1).bind fun bt178 => (some bt178.1)) else (some 0))) else (some 0)) = some r := H; have A3 := Aside0.mk A30; clear A30
 by_cases c4 : t176 = true
 ·subst c4
  have H1 : ((impl_AutoOk.f k a0_0 a0_1 a0_2 l0_3).bind fun t177 => (if t177 = true then ((impl_Auto_reach.f k a0_0 a0_1 a0_2 l0_3 a1).bind fun bt178 => (some bt178.1)) else (some 0))) = some r := by rw [if_pos rfl] at H; exact H
  clear H; have H := H1; clear H1; replace H := Option.bind_eq_some_iff.mp H; obtain ⟨t177, A50, H⟩ := H; replace H : (if t177 = true then ((impl_Auto_reach.f k a0_0 a0_1 a0_2 l0_3 a1).bind fun bt178 => (some bt178.1)) else (some 0)) = some r := H; have A5 := Aside0.mk A50; clear A50
  by_cases c6 : t177 = true
  ·subst c6
   have H1 : ((impl_Auto_reach.f k a0_0 a0_1 a0_2 l0_3 a1).bind fun bt178 => (some bt178.1)) = some r := by rw [if_pos rfl] at H; exact H
   clear H; have H := H1; clear H1; replace H := Option.bind_eq_some_iff.mp H; obtain ⟨⟨t178, t179, t180, t181⟩, A70, H⟩ := H; replace H : (some t178) = some r := H; have A7 := Aside0.mk A70; clear A70; obtain rfl := Option.some.inj H
   go_enter Try.func33, Try.ntmps33
   go_wp2_with (first | ((with_reducible refine gate_dst (N := 2) rfl ?_); refine box_event ?hg (N := 2) ?hd (cs := #[.int .i64 a0_0, .int .i64 a0_1, .int .i64 a0_2, .slice A0_3 l0_3.length c0_3]) (t := 24) ?hr ?_; (case hd => rfl); (case hg => rfl); (case hr => first | (go_simp; done) | (go_simp; rfl)); intro gb175 hg w8 hbox hb; have BK175 := Aside0.mk (hbox); have GW175 := xG HB hg; have GE175 := xG HB hg; replace HB := xS HB hb; clear hb hbox hg) | ((with_reducible refine gate_callee (f := 78) rfl ?_); refine goesL_ (some 6) rfl rfl Try.func78 (by kernel_rfl) rfl #[.int .i64 a1] rfl (by (try simp only [m3]); first | done | rfl | (simp only [d2]; rfl)) ?_; (with_reducible refine (impl_SetOk.calls a1 true _ A3.out).mono ?_); rintro e w' ⟨rfl, ⟨nd, rfl⟩⟩; refine ⟨_, rfl, ?_⟩; (try (rw [drewN_self w8]; generalize hq_ : World.drewN w8 _ = w8; have n0_ : Aside0 (w8.heap[gb175]? = some (.cells #[.int .i64 a0_0, .int .i64 a0_1, .int .i64 a0_2, .slice A0_3 l0_3.length c0_3] 24 (0, 0))) := ⟨by rw [← hq_]; exact (zB BK175.out)⟩; have n1_ : Aside0 (Below w.heap.size w w8) := ⟨by rw [← hq_]; exact (zS HB.out)⟩; clear BK175 HB hq_; have BK175 := n0_; have HB := n1_; clear n0_ n1_)); have hcz9_0 : w8.cell? ⟨gb175, 0, none⟩ = some (.int .i64 a0_0) := b1 BK175 0; have hcz9_1 : w8.cell? ⟨gb175, 1, none⟩ = some (.int .i64 a0_1) := b1 BK175 1; have hcz9_2 : w8.cell? ⟨gb175, 2, none⟩ = some (.int .i64 a0_2) := b1 BK175 2; have hcz9_3 : w8.cell? ⟨gb175, 3, none⟩ = some (.slice A0_3 l0_3.length c0_3) := b1 BK175 3; have hfz9_0 := blk_frozen BK175.out 0; have hfz9_1 := blk_frozen BK175.out 1; have hfz9_2 := blk_frozen BK175.out 2; have hfz9_3 := blk_frozen BK175.out 3) | (go_at_call 22; (with_reducible refine (impl_AutoOk.calls k a0_0 a0_1 a0_2 _ _ l0_3 true _ ?side1 ?side2 A5.out).mono ?_); (case side1 => exact zC (Kd.C_below HR0_3.out HB.out)); (case side2 => exact HC0_3.out); rintro e w10 ⟨rfl, hb⟩; replace BK175 := xB BK175 hb; replace HB := xS HB hb; (try clear hb); (try clear hb2); (try clear hk); (try clear hi); have HI175 := Aside0.mk (show IsS24 w w10 gb175 a0_0 a0_1 a0_2 l0_3 from ⟨A0_3, c0_3, BK175.out, GW175.out, HR0_3.out⟩); clear BK175) | ((with_reducible refine gate_callee (f := 81) rfl ?_); refine goesL_ (some 14) rfl rfl Try.func81 (by kernel_rfl) rfl #[.pointer (some ⟨gb175, 0, none⟩), .int .i64 a1] rfl (by (try simp only [m3]); first | done | rfl | (simp only [d2]; rfl)) ?_; (with_reducible refine (impl_Auto_reach.calls k gb175 a0_0 a0_1 a0_2 l0_3 a1 t178 t179 t180 t181 w _ ?side1 ?side2 A7.out).mono ?_); (case side1 => repeat (first | (with_reducible first | exact HI175.out | apply IsS24.alloc | apply IsS24.drewN | apply IsS24.drew | apply IsS24.set_0 | apply IsS24.set_1 | apply IsS24.set_2) | exact HI175.out)); (case side2 => repeat (first | (with_reducible first | exact HB.out | apply below_alloc | apply pw_below_drewN | apply below_drew1 | refine below_set ?_ (IsS24.ge HI175.out)) | exact HB.out)); rintro e w11 ⟨rfl, hi, hb, hk⟩; refine ⟨_, rfl, ?_⟩; have n0_ := Aside0.mk (hb); have n1_ := Aside0.mk (hi); clear HB; clear HI175; have HB := n0_; have HI175 := n1_; clear n0_ n1_; (try clear hb); (try clear hb2); (try clear hk); (try clear hi)))
   go_ret; exact ⟨by first | rfl | (simp [errW_none, errW_some] <;> rfl) | (simp [*, errW_none, errW_some] <;> rfl), by repeat (first | (with_reducible first | exact HB.out | apply below_alloc | apply pw_below_drewN | apply below_drew1 | refine below_set ?_ (IsS24.ge HI175.out)) | exact HB.out)⟩
  ·replace c6 := Bool.eq_false_iff.mpr c6; subst c6
   have H1 : (some 0) = some r := by rw [if_neg (show ¬ (false = true) by decide)] at H; exact H
   clear H; have H := H1; clear H1; obtain rfl := Option.some.inj H
   go_enter Try.func33, Try.ntmps33
   go_wp2_with (first | ((with_reducible refine gate_dst (N := 2) rfl ?_); refine box_event ?hg (N := 2) ?hd (cs := #[.int .i64 a0_0, .int .i64 a0_1, .int .i64 a0_2, .slice A0_3 l0_3.length c0_3]) (t := 24) ?hr ?_; (case hd => rfl); (case hg => rfl); (case hr => first | (go_simp; done) | (go_simp; rfl)); intro gb175 hg w12 hbox hb; have BK175 := Aside0.mk (hbox); have GW175 := xG HB hg; have GE175 := xG HB hg; replace HB := xS HB hb; clear hb hbox hg) | ((with_reducible refine gate_callee (f := 78) rfl ?_); refine goesL_ (some 6) rfl rfl Try.func78 (by kernel_rfl) rfl #[.int .i64 a1] rfl (by (try simp only [m3]); first | done | rfl | (simp only [d2]; rfl)) ?_; (with_reducible refine (impl_SetOk.calls a1 true _ A3.out).mono ?_); rintro e w' ⟨rfl, ⟨nd, rfl⟩⟩; refine ⟨_, rfl, ?_⟩; have hcz13_0 : w12.cell? ⟨gb175, 0, none⟩ = some (.int .i64 a0_0) := b1 BK175 0; have hcz13_1 : w12.cell? ⟨gb175, 1, none⟩ = some (.int .i64 a0_1) := b1 BK175 1; have hcz13_2 : w12.cell? ⟨gb175, 2, none⟩ = some (.int .i64 a0_2) := b1 BK175 2; have hcz13_3 : w12.cell? ⟨gb175, 3, none⟩ = some (.slice A0_3 l0_3.length c0_3) := b1 BK175 3; have hfz13_0 := blk_frozen BK175.out 0; have hfz13_1 := blk_frozen BK175.out 1; have hfz13_2 := blk_frozen BK175.out 2; have hfz13_3 := blk_frozen BK175.out 3) | (go_at_call 22; (with_reducible refine (impl_AutoOk.calls k a0_0 a0_1 a0_2 _ _ l0_3 false _ ?side1 ?side2 A5.out).mono ?_); (case side1 => repeat (first | exact (Kd.C_below HR0_3.out (zS HB.out)) | (with_reducible refine Kd.C_alloc ?_ _) | (with_reducible refine Kd.C_drewN ?_ _) | (with_reducible refine Kd.C_drew ?_))); (case side2 => exact HC0_3.out); rintro e w14 ⟨rfl, hb⟩; replace BK175 := xB BK175 hb; replace HB := xS HB hb; (try clear hb); (try clear hb2); (try clear hk); (try clear hi)))
   go_ret; exact ⟨by first | rfl | (simp [errW_none, errW_some] <;> rfl) | (simp [*, errW_none, errW_some] <;> rfl), by repeat (first | (with_reducible first | exact HB.out | apply below_alloc | apply pw_below_drewN | apply below_drew1 | refine below_set ?_ GE175.out) | exact HB.out)⟩
 ·replace c4 := Bool.eq_false_iff.mpr c4; subst c4
  have H1 : (some 0) = some r := by rw [if_neg (show ¬ (false = true) by decide)] at H; exact H
  clear H; have H := H1; clear H1; obtain rfl := Option.some.inj H
  go_enter Try.func33, Try.ntmps33
  go_wp2_with (first | ((with_reducible refine gate_dst (N := 2) rfl ?_); refine box_event ?hg (N := 2) ?hd (cs := #[.int .i64 a0_0, .int .i64 a0_1, .int .i64 a0_2, .slice A0_3 l0_3.length c0_3]) (t := 24) ?hr ?_; (case hd => rfl); (case hg => rfl); (case hr => first | (go_simp; done) | (go_simp; rfl)); intro gb175 hg w15 hbox hb; have BK175 := Aside0.mk (hbox); have GW175 := xG HB hg; have GE175 := xG HB hg; replace HB := xS HB hb; clear hb hbox hg) | ((with_reducible refine gate_callee (f := 78) rfl ?_); refine goesL_ (some 6) rfl rfl Try.func78 (by kernel_rfl) rfl #[.int .i64 a1] rfl (by (try simp only [m3]); first | done | rfl | (simp only [d2]; rfl)) ?_; (with_reducible refine (impl_SetOk.calls a1 false _ A3.out).mono ?_); rintro e w' ⟨rfl, ⟨nd, rfl⟩⟩; refine ⟨_, rfl, ?_⟩))
  go_ret; exact ⟨by first | rfl | (simp [errW_none, errW_some] <;> rfl) | (simp [*, errW_none, errW_some] <;> rfl), by repeat (first | (with_reducible first | exact HB.out | apply below_alloc | apply pw_below_drewN | apply below_drew1 | refine below_set ?_ GE175.out) | exact HB.out)⟩

/-! ### laws_big: function 40 -/
def laws_big.f (l0 : List Int) : Option (Bool) := some (decide ((l0.length : Int) > 1048576))
set_option maxHeartbeats 8000000 in
set_option maxRecDepth 100000 in
theorem laws_big.calls (A0 : Option Addr) (c0 : Nat) (l0 : List Int) (r : Bool) (w : World) (hr0 : Kd.C (Kd.int .u8) w A0 l0.length l0) (hc0 : l0.length ≤ c0) (h : laws_big.f l0 = some r) :
    Calls Try.prog 40 #[.slice A0 l0.length c0] w fun e w' => e = .returned (.bool r) ∧ Drawn0 w w' := by
  have HR0 := Aside0.mk hr0
  have HC0 := Aside0.mk hc0
  clear hr0 hc0
  have H : (some (decide ((l0.length : Int) > 1048576))) = some r := h
  clear h
  obtain rfl := Option.some.inj H
  go_enter Try.func40, Try.ntmps40
  go_wp2
  go_ret
  exact ⟨by first | rfl | (simp; done) | (simp [*]; done), by repeat (first | exact Drawn0.refl _ | apply Drawn0.step)⟩

end Go.Proofs.Ytlallflpicgcmaa.MFnReach4
