-- Written by a program of this session, out of Lean's print of the translation. Not trusted: Lean checks it.
import Derived.Test.YtlallflpicgcmaaMFnExactAutoTrimx0
import Derived.Test.YtlallflpicgcmaaMFnExactAutoTrimx3
namespace Go.Proofs.Ytlallflpicgcmaa.MFnExactAutoTrim
open Go.RowKit Go.Proofs.YtlallflpicgcmaaW.PrintWords Go.Proofs.YtlallflpicgcmaaW.PrintLast Go.Proofs.YtlallflpicgcmaaW.PrintMore Go.Proofs.Ytlallflpicgcmaa.Short4
attribute [local go_sem] max2_int min2_int max_two min_two max_three min_three max_four min_four   -- for this text's walks alone
set_option linter.unusedVariables false
set_option linter.unusedSimpArgs false

/-! ### spec_l1Bit: function 109 -/
def spec_l1Bit.f (a0 : Int) : Option (Int) := if 0 ≤ (Go.bits .and .i64 a0 31) then (some (shl .i64 1 (Go.bits .and .i64 a0 31))) else (none)
set_option maxHeartbeats 8000000 in
set_option maxRecDepth 100000 in
theorem spec_l1Bit.calls (a0 : Int) (r : Int) (w : World) (h : spec_l1Bit.f a0 = some r) :
    Calls Try.prog 109 #[.int .i64 a0] w fun e w' => e = .returned (.int .i64 r) ∧ Drawn0 w w' := by
  have H : (if 0 ≤ (Go.bits .and .i64 a0 31) then (some (shl .i64 1 (Go.bits .and .i64 a0 31))) else (none)) = some r := h
  clear h
  by_cases c2 : 0 ≤ (Go.bits .and .i64 a0 31)
  · rw [if_pos c2] at H
    have c2b0 := eq_true c2
    have c2b1 : decide (0 ≤ (Go.bits .and .i64 a0 31)) = true := decide_eq_true c2
    clear c2
    obtain ⟨ji3, hji3⟩ : ∃ j_ : Int, (shl .i64 1 (Go.bits .and .i64 a0 31)) = j_ := ⟨_, rfl⟩
    replace H : (some ji3) = some r := by first | (rw [hji3] at H; exact H) | (simp only [hji3] at H ⊢; exact H)
    have hji3_ : (IntKind.i64.wrap (1 * 2 ^ min (Go.bits .and .i64 a0 31).toNat 64)) = ji3 := hji3
    have hji3z : (Go.bits .and .i64 a0 31) ≤ 64 → (IntKind.i64.wrap (1 * 2 ^ (Go.bits .and .i64 a0 31).toNat)) = ji3 := shl_small hji3
    have hji3u : (IntKind.i64.wrap (2 ^ min (Go.bits .and .i64 a0 31).toNat 64)) = ji3 := by have h_ := hji3_; rw [Int.one_mul] at h_; exact h_
    have hji3v : (Go.bits .and .i64 a0 31) ≤ 64 → (IntKind.i64.wrap (2 ^ (Go.bits .and .i64 a0 31).toNat)) = ji3 := fun hle_ => by have h_ := hji3z hle_; rw [Int.one_mul] at h_; exact h_
    have hji3y : (wrap64 (1 * 2 ^ min (Go.bits .and .i64 a0 31).toNat 64)) = ji3 := (i64_w _).symm.trans hji3_
    have hji3x : (Go.bits .and .i64 a0 31) ≤ 64 → (wrap64 (1 * 2 ^ (Go.bits .and .i64 a0 31).toNat)) = ji3 := fun h_ => (i64_w _).symm.trans (hji3z h_)
    obtain rfl := Option.some.inj H
    go_enter Try.func109, Try.ntmps109
    go_wp2
    go_ret
    exact ⟨by first | rfl | (simp; done) | (simp only [← hji3] <;> (first | rfl | simp)) | (simp [*]; done), by repeat (first | exact Drawn0.refl _ | apply Drawn0.step)⟩
  · rw [if_neg c2] at H
    exact absurd H (by simp)


/-! ### spec_l1Has: function 96 -/
def spec_l1Has.f (a0 : Int) (a1 : Int) : Option (Bool) := (spec_l1In.f a1 0 30).bind fun t236 => (if t236 = true then ((spec_l1Bit.f a1).bind fun t237 => (some ((Go.bits .and .i64 a0 t237) != 0))) else (some false))
open Go.Proofs.Ytlallflpicgcmaa.Short2 in
set_option maxHeartbeats 8000000 in
set_option maxRecDepth 100000 in
theorem spec_l1Has.calls (a0 : Int) (a1 : Int) (r : Bool) (w : World) (h : spec_l1Has.f a0 a1 = some r) :
  Calls Try.prog 96 #[.int .i64 a0, .int .i64 a1] w fun e w' => e = .returned (.bool r) ∧ Drawn0 w w' := by
 have H : ((spec_l1In.f a1 0 30).bind fun t236 => (if t236 = true then ((spec_l1Bit.f a1).bind fun t237 => (some ((Go.bits .and .i64 a0 t237) != 0))) else (some false))) = some r := h; clear h; replace H := Option.bind_eq_some_iff.mp H; obtain ⟨t236, A30, H⟩ := H; replace H : (if t236 = true then ((spec_l1Bit.f a1).bind fun t237 => (some ((Go.bits .and .i64 a0 t237) != 0))) else (some false)) = some r := H; have A3 := Aside0.mk A30; clear A30
 by_cases c4 : t236 = true
 ·subst c4
  have H1 : ((spec_l1Bit.f a1).bind fun t237 => (some ((Go.bits .and .i64 a0 t237) != 0))) = some r := by rw [if_pos rfl] at H; exact H
  clear H; have H := H1; clear H1; replace H := Option.bind_eq_some_iff.mp H; obtain ⟨t237, A50, H⟩ := H; replace H : (some ((Go.bits .and .i64 a0 t237) != 0)) = some r := H; have A5 := Aside0.mk A50; clear A50; obtain rfl := Option.some.inj H
  go_enter Try.func96, Try.ntmps96
  go_wp2_with (first | ((with_reducible refine gate_callee (f := 58) rfl ?_); refine goesL_ (some 6) rfl rfl Try.func58 (by kernel_rfl) rfl #[.int .i64 a1, .int .i64 0, .int .i64 30] rfl (by (try simp only [m3]); first | done | rfl | (simp only [d2]; rfl)) ?_; (with_reducible refine (spec_l1In.calls a1 0 30 true _ A3.out).mono ?_); rintro e w' ⟨rfl, ⟨nd, rfl⟩⟩; refine ⟨_, rfl, ?_⟩) | (go_at_call 109; (with_reducible refine (spec_l1Bit.calls a1 t237 _ A5.out).mono ?_); rintro e w' ⟨rfl, ⟨nd, rfl⟩⟩))
  go_ret; exact ⟨by first | rfl | (simp; done) | (simp [*]; done), by repeat (first | exact Drawn0.refl _ | apply Drawn0.step)⟩
 ·replace c4 := Bool.eq_false_iff.mpr c4; subst c4
  have H1 : (some false) = some r := by rw [if_neg (show ¬ (false = true) by decide)] at H; exact H
  clear H; have H := H1; clear H1; obtain rfl := Option.some.inj H
  go_enter Try.func96, Try.ntmps96
  go_wp2_with (first | ((with_reducible refine gate_callee (f := 58) rfl ?_); refine goesL_ (some 6) rfl rfl Try.func58 (by kernel_rfl) rfl #[.int .i64 a1, .int .i64 0, .int .i64 30] rfl (by (try simp only [m3]); first | done | rfl | (simp only [d2]; rfl)) ?_; (with_reducible refine (spec_l1In.calls a1 0 30 false _ A3.out).mono ?_); rintro e w' ⟨rfl, ⟨nd, rfl⟩⟩; refine ⟨_, rfl, ?_⟩))
  go_ret; exact ⟨by first | rfl | (simp; done) | (simp [*]; done), by repeat (first | exact Drawn0.refl _ | apply Drawn0.step)⟩


/-! ### spec_l4Reach: function 80 -/
mutual
def spec_l4Reach.l0 : Nat → Int → Int → Int → Int → Int → List (S68) → Option (Int)
 | 0, _, _, _, _, _, _ => none
 | k + 1, x1, x5, x239000, x239001, x239002, x239003 => if x5 ≤ x239001 then (spec_l4Reach.l1 k x1 x5 0 x239000 x239001 x239002 x239003) else (some x1)
def spec_l4Reach.l1 : Nat → Int → Int → Int → Int → Int → Int → List (S68) → Option (Int)
 | 0, _, _, _, _, _, _, _ => none
 | k + 1, x1, x5, x6, x239000, x239001, x239002, x239003 => if x6 < (x239003.length : Int) then (if 0 ≤ x6 then ((spec_l1Has.f x1 ((rd_T68 x239003 x6).f0)).bind fun t240 => (if t240 = true then ((spec_l1Bit.f ((rd_T68 x239003 x6).f2)).bind fun t242 => (spec_l4Reach.l1 k (Go.bits .or .i64 x1 t242) x5 (wrap64 (x6 + 1)) x239000 x239001 x239002 x239003)) else (spec_l4Reach.l1 k x1 x5 (wrap64 (x6 + 1)) x239000 x239001 x239002 x239003))) else (none)) else (spec_l4Reach.l0 k x1 (wrap64 (x5 + 1)) x239000 x239001 x239002 x239003)
end
def spec_l4Reach.f (k : Nat) (a0_0 : Int) (a0_1 : Int) (a0_2 : Int) (l0_3 : List (S68)) (a1 : Int) : Option (Int) := spec_l4Reach.l0 k a1 0 a0_0 a0_1 a0_2 l0_3
theorem spec_l4Reach.mono_l : ∀ k, (∀ y0 y1 y2 y3 y4 y5, LeO (spec_l4Reach.l0 k y0 y1 y2 y3 y4 y5) (spec_l4Reach.l0 (k + 1) y0 y1 y2 y3 y4 y5)) ∧ (∀ y0 y1 y2 y3 y4 y5 y6, LeO (spec_l4Reach.l1 k y0 y1 y2 y3 y4 y5 y6) (spec_l4Reach.l1 (k + 1) y0 y1 y2 y3 y4 y5 y6))
 | 0 => ⟨fun _ _ _ _ _ _ r h => by simp [spec_l4Reach.l0] at h, fun _ _ _ _ _ _ _ r h => by simp [spec_l4Reach.l1] at h⟩
 | k + 1 => by
  obtain ⟨ih0, ih1⟩ := spec_l4Reach.mono_l k
  refine ⟨?_, ?_⟩
  ·intro y0 y1 y2 y3 y4 y5
   unfold spec_l4Reach.l0
   repeat' first
   | (with_reducible exact ih0 _ _ _ _ _ _)
   | (with_reducible exact ih1 _ _ _ _ _ _ _)
   | (with_reducible exact LeO.refl _)
   | (with_reducible exact LeO.none _)
   | (with_reducible refine LeO.ite ?_ ?_)
   | (with_reducible refine LeO.bind ?_ (fun _ => ?_))
   | exact ih0 _ _ _ _ _ _
   | exact ih1 _ _ _ _ _ _ _
   | exact LeO.none _
   | refine LeO.ite ?_ ?_
   | refine LeO.bind ?_ (fun _ => ?_)
  ·intro y0 y1 y2 y3 y4 y5 y6
   unfold spec_l4Reach.l1
   repeat' first
   | (with_reducible exact ih0 _ _ _ _ _ _)
   | (with_reducible exact ih1 _ _ _ _ _ _ _)
   | (with_reducible exact LeO.refl _)
   | (with_reducible exact LeO.none _)
   | (with_reducible refine LeO.ite ?_ ?_)
   | (with_reducible refine LeO.bind ?_ (fun _ => ?_))
   | exact ih0 _ _ _ _ _ _
   | exact ih1 _ _ _ _ _ _ _
   | exact LeO.none _
   | refine LeO.ite ?_ ?_
   | refine LeO.bind ?_ (fun _ => ?_)
theorem spec_l4Reach.mono : ∀ a0 a1 a2 a3 a4 k, LeO (spec_l4Reach.f k a0 a1 a2 a3 a4) (spec_l4Reach.f (k + 1) a0 a1 a2 a3 a4) := by
 intro a0 a1 a2 a3 a4 k
 obtain ⟨ih0, ih1⟩ := spec_l4Reach.mono_l k
 unfold spec_l4Reach.f
 repeat' first
   | (with_reducible exact ih0 _ _ _ _ _ _)
   | (with_reducible exact ih1 _ _ _ _ _ _ _)
   | (with_reducible exact LeO.refl _)
   | (with_reducible exact LeO.none _)
   | (with_reducible refine LeO.ite ?_ ?_)
   | (with_reducible refine LeO.bind ?_ (fun _ => ?_))
   | exact ih0 _ _ _ _ _ _
   | exact ih1 _ _ _ _ _ _ _
   | exact LeO.none _
   | refine LeO.ite ?_ ?_
   | refine LeO.bind ?_ (fun _ => ?_)
open Go.Proofs.Ytlallflpicgcmaa.Short2 in
set_option maxHeartbeats 8000000 in
set_option maxRecDepth 100000 in
theorem spec_l4Reach.calls (k : Nat) (a0_0 : Int) (a0_1 : Int) (a0_2 : Int) (A0_3 : Option Addr) (c0_3 : Nat) (l0_3 : List (S68)) (a1 : Int) (r : Int) (w : World) (hr0_3 : Kd.C k68 w A0_3 l0_3.length l0_3) (hc0_3 : l0_3.length ≤ c0_3) (h : spec_l4Reach.f k a0_0 a0_1 a0_2 l0_3 a1 = some r) :
  Calls Try.prog 80 #[.agg #[.int .i64 a0_0, .int .i64 a0_1, .int .i64 a0_2, .slice A0_3 l0_3.length c0_3], .int .i64 a1] w fun e w' => e = .returned (.int .i64 r) ∧ Below w.heap.size w w' := by
 have hu24 := Try.underlying24; have HR0_3 := Aside0.mk hr0_3; have HC0_3 := Aside0.mk hc0_3; clear hr0_3 hc0_3; have HB := Aside0.mk (Below.refl w.heap.size w); have H : (spec_l4Reach.l0 k a1 0 a0_0 a0_1 a0_2 l0_3) = some r := h; clear h; have H' := Aside0.mk H; clear H
 go_enter Try.func80, Try.ntmps80
 go_wp2_with (first | ((with_reducible refine gate_dst (N := 2) rfl ?_); refine box_event ?hg (N := 2) ?hd (cs := #[.int .i64 a0_0, .int .i64 a0_1, .int .i64 a0_2, .slice A0_3 l0_3.length c0_3]) (t := 24) ?hr ?_; (case hd => rfl); (case hg => rfl); (case hr => first | (go_simp; done) | (go_simp; rfl)); intro gb238 hg w3 hbox hb; have BK238 := Aside0.mk (hbox); have GW238 := xG HB hg; have GE238 := xG HB hg; replace HB := xS HB hb; clear hb hbox hg))
 go_loopg [1, 5] k (fun kq v1 v5 w' => ∃ (x1_1 : Int) (x5_1 : Int), v1 = .int .i64 x1_1 ∧ v5 = .int .i64 x5_1 ∧ Aside0 (spec_l4Reach.l0 kq x1_1 x5_1 a0_0 a0_1 a0_2 l0_3 = some r) ∧ Aside0 (kq ≤ k) ∧ Aside0 (w'.heap[gb238]? = some (.cells #[.int .i64 a0_0, .int .i64 a0_1, .int .i64 a0_2, (.slice A0_3 l0_3.length c0_3)] 24 (0, 0))) ∧ Aside0 (Below w.heap.size w w'))
 case atStart => exact ⟨(a1), (0), (by first | rfl | (simp; done) | (simp [*]; done) | (rw [Int.tmod_eq_emod_of_nonneg (Int.natCast_nonneg _)]; done)), (by first | rfl | (simp; done) | (simp [*]; done) | (rw [Int.tmod_eq_emod_of_nonneg (Int.natCast_nonneg _)]; done)), H', ⟨Nat.le_refl _⟩, ⟨zB BK238.out⟩, ⟨zS HB.out⟩⟩
 case round =>
  clear H'
  try clear p2
  obtain ⟨x1_1, x5_1, rfl, rfl, HA, HK1, BK238, HB⟩ := hrel
  cases gk with
  | zero => exact absurd HA.out (by simp [spec_l4Reach.l0])
  | succ k1 =>
   have H := HA.out; clear HA; simp only [spec_l4Reach.l0] at H
   by_cases c4 : x5_1 ≤ a0_1
   ·rw [if_pos c4] at H; have c4b0 : decide (x5_1 ≤ a0_1) = true := decide_eq_true c4; clear c4; have H' := Aside0.mk H; clear H; have hcz5_0 : wr.cell? ⟨gb238, 0, none⟩ = some (.int .i64 a0_0) := b1 BK238 0; have hcz5_1 : wr.cell? ⟨gb238, 1, none⟩ = some (.int .i64 a0_1) := b1 BK238 1; have hcz5_2 : wr.cell? ⟨gb238, 2, none⟩ = some (.int .i64 a0_2) := b1 BK238 2; have hcz5_3 : wr.cell? ⟨gb238, 3, none⟩ = some (.slice A0_3 l0_3.length c0_3) := b1 BK238 3; have hfz5_0 := blk_frozen BK238.out 0; have hfz5_1 := blk_frozen BK238.out 1; have hfz5_2 := blk_frozen BK238.out 2; have hfz5_3 := blk_frozen BK238.out 3
    go_wp2
    go_loopg [1, 6] k1 (fun kq v1 v6 w' => ∃ (x1_2 : Int) (x6_2 : Int), v1 = .int .i64 x1_2 ∧ v6 = .int .i64 x6_2 ∧ Aside0 (spec_l4Reach.l1 kq x1_2 x5_1 x6_2 a0_0 a0_1 a0_2 l0_3 = some r) ∧ Aside0 (kq ≤ k1) ∧ Aside0 (w'.heap[gb238]? = some (.cells #[.int .i64 a0_0, .int .i64 a0_1, .int .i64 a0_2, (.slice A0_3 l0_3.length c0_3)] 24 (0, 0))) ∧ Aside0 (Below w.heap.size w w'))
    case atStart => exact ⟨(x1_1), (0), (by first | rfl | (simp; done) | (simp [*]; done) | (rw [Int.tmod_eq_emod_of_nonneg (Int.natCast_nonneg _)]; done)), (by first | rfl | (simp; done) | (simp [*]; done) | (rw [Int.tmod_eq_emod_of_nonneg (Int.natCast_nonneg _)]; done)), H', ⟨Nat.le_refl _⟩, ⟨zB BK238.out⟩, ⟨zS HB.out⟩⟩
    case round =>
     clear H'
     try clear p2
     try clear c4
     try clear c4b0
     try clear hcz5_0
     try clear hcz5_1
     try clear hcz5_2
     try clear hcz5_3
     try clear hfz5_0
     try clear hfz5_1
     try clear hfz5_2
     try clear hfz5_3
     try clear p2
     obtain ⟨x1_2, x6_2, rfl, rfl, HA, HK2, BK238, HB⟩ := hrel
     cases gk with
     | zero => exact absurd HA.out (by simp [spec_l4Reach.l1])
     | succ k2 =>
      have H := HA.out; clear HA; simp only [spec_l4Reach.l1] at H
      by_cases c6 : x6_2 < (l0_3.length : Int)
      ·rw [if_pos c6] at H; have c6b0 : decide (x6_2 < (l0_3.length : Int)) = true := decide_eq_true c6; clear c6
       by_cases c7 : 0 ≤ x6_2
       ·rw [if_pos c7] at H; have c7b0 : decide (0 ≤ x6_2) = true := decide_eq_true c7; clear c7; replace H := Option.bind_eq_some_iff.mp H; obtain ⟨t240, A80, H⟩ := H; replace H : (if t240 = true then ((spec_l1Bit.f ((rd_T68 l0_3 x6_2).f2)).bind fun t242 => (spec_l4Reach.l1 k2 (Go.bits .or .i64 x1_2 t242) x5_1 (wrap64 (x6_2 + 1)) a0_0 a0_1 a0_2 l0_3)) else (spec_l4Reach.l1 k2 x1_2 x5_1 (wrap64 (x6_2 + 1)) a0_0 a0_1 a0_2 l0_3)) = some r := H; have A8 := Aside0.mk A80; clear A80
        by_cases c9 : t240 = true
        ·subst c9
         have H1 : ((spec_l1Bit.f ((rd_T68 l0_3 x6_2).f2)).bind fun t242 => (spec_l4Reach.l1 k2 (Go.bits .or .i64 x1_2 t242) x5_1 (wrap64 (x6_2 + 1)) a0_0 a0_1 a0_2 l0_3)) = some r := by rw [if_pos rfl] at H; exact H
         clear H; have H := H1; clear H1; replace H := Option.bind_eq_some_iff.mp H; obtain ⟨t242, A100, H⟩ := H; replace H : (spec_l4Reach.l1 k2 (Go.bits .or .i64 x1_2 t242) x5_1 (wrap64 (x6_2 + 1)) a0_0 a0_1 a0_2 l0_3) = some r := H; have A10 := Aside0.mk A100; clear A100; have H' := Aside0.mk H; clear H; have hcz11_0 : wr.cell? ⟨gb238, 0, none⟩ = some (.int .i64 a0_0) := b1 BK238 0; have hcz11_1 : wr.cell? ⟨gb238, 1, none⟩ = some (.int .i64 a0_1) := b1 BK238 1; have hcz11_2 : wr.cell? ⟨gb238, 2, none⟩ = some (.int .i64 a0_2) := b1 BK238 2; have hcz11_3 : wr.cell? ⟨gb238, 3, none⟩ = some (.slice A0_3 l0_3.length c0_3) := b1 BK238 3; have hfz11_0 := blk_frozen BK238.out 0; have hfz11_1 := blk_frozen BK238.out 1; have hfz11_2 := blk_frozen BK238.out 2; have hfz11_3 := blk_frozen BK238.out 3; have p239 : 0 ≤ (x6_2 : Int) := oD; have q239 : x6_2 < (l0_3.length : Int) := oD; obtain ⟨ad239, e239, hx239_0, hx239_1, hx239_2, hx239_3⟩ := at_T68 HR0_3.out x6_2 p239 q239
         cases e239
         replace hx239_0 := cT HB hx239_0; replace hx239_1 := cT HB hx239_1; replace hx239_2 := cT HB hx239_2; replace hx239_3 := cT HB hx239_3; replace p239 := eq_true p239; replace q239 := eq_true q239
         go_wp2_with (first | ((with_reducible refine gate_callee (f := 96) rfl ?_); refine goesL_ (some 27) rfl rfl Try.func96 (by kernel_rfl) rfl #[.int .i64 x1_2, .int .i64 ((rd_T68 l0_3 x6_2).f0)] rfl (by (try simp only [m3]); first | done | rfl | (simp only [d2]; rfl)) ?_; (with_reducible refine (spec_l1Has.calls x1_2 ((rd_T68 l0_3 x6_2).f0) true _ A8.out).mono ?_); rintro e w' ⟨rfl, ⟨nd, rfl⟩⟩; refine ⟨_, rfl, ?_⟩; have p241 : 0 ≤ (x6_2 : Int) := oD; have q241 : x6_2 < (l0_3.length : Int) := oD; obtain ⟨ad241, e241, hx241_0, hx241_1, hx241_2, hx241_3⟩ := at_T68 HR0_3.out x6_2 p241 q241; obtain rfl : ad239 = ad241 := (by injection e241); replace hx241_0 := cT HB hx241_0; replace hx241_1 := cT HB hx241_1; replace hx241_2 := cT HB hx241_2; replace hx241_3 := cT HB hx241_3; replace p241 := eq_true p241; replace q241 := eq_true q241) | ((with_reducible refine gate_callee (f := 109) rfl ?_); refine goesL_ (some 35) rfl rfl Try.func109 (by kernel_rfl) rfl #[.int .i64 ((rd_T68 l0_3 x6_2).f2)] rfl (by (try simp only [m3]); first | done | rfl | (simp only [d2]; rfl)) ?_; (with_reducible refine (spec_l1Bit.calls ((rd_T68 l0_3 x6_2).f2) t242 _ A10.out).mono ?_); rintro e w' ⟨rfl, ⟨nd, rfl⟩⟩; refine ⟨_, rfl, ?_⟩))
         go_roundg k2
         case measure => have := HK1.out; have := HK2.out; omega
         case rel => exact ⟨(Go.bits .or .i64 x1_2 t242), (wrap64 (x6_2 + 1)), (by first | rfl | (simp; done) | (simp [*]; done) | (rw [Int.tmod_eq_emod_of_nonneg (Int.natCast_nonneg _)]; done)), (by first | rfl | (simp; done) | (simp [*]; done) | (rw [Int.tmod_eq_emod_of_nonneg (Int.natCast_nonneg _)]; done)), H', ⟨by have := HK1.out; have := HK2.out; omega⟩, ⟨zB BK238.out⟩, ⟨zS HB.out⟩⟩
        ·replace c9 := Bool.eq_false_iff.mpr c9; subst c9
         have H1 : (spec_l4Reach.l1 k2 x1_2 x5_1 (wrap64 (x6_2 + 1)) a0_0 a0_1 a0_2 l0_3) = some r := by rw [if_neg (show ¬ (false = true) by decide)] at H; exact H
         clear H; have H := H1; clear H1; have H' := Aside0.mk H; clear H; have hcz12_0 : wr.cell? ⟨gb238, 0, none⟩ = some (.int .i64 a0_0) := b1 BK238 0; have hcz12_1 : wr.cell? ⟨gb238, 1, none⟩ = some (.int .i64 a0_1) := b1 BK238 1; have hcz12_2 : wr.cell? ⟨gb238, 2, none⟩ = some (.int .i64 a0_2) := b1 BK238 2; have hcz12_3 : wr.cell? ⟨gb238, 3, none⟩ = some (.slice A0_3 l0_3.length c0_3) := b1 BK238 3; have hfz12_0 := blk_frozen BK238.out 0; have hfz12_1 := blk_frozen BK238.out 1; have hfz12_2 := blk_frozen BK238.out 2; have hfz12_3 := blk_frozen BK238.out 3; have p239 : 0 ≤ (x6_2 : Int) := oD; have q239 : x6_2 < (l0_3.length : Int) := oD; obtain ⟨ad239, e239, hx239_0, hx239_1, hx239_2, hx239_3⟩ := at_T68 HR0_3.out x6_2 p239 q239
         cases e239
         replace hx239_0 := cT HB hx239_0; replace hx239_1 := cT HB hx239_1; replace hx239_2 := cT HB hx239_2; replace hx239_3 := cT HB hx239_3; replace p239 := eq_true p239; replace q239 := eq_true q239
         go_wp2_with (first | ((with_reducible refine gate_callee (f := 96) rfl ?_); refine goesL_ (some 27) rfl rfl Try.func96 (by kernel_rfl) rfl #[.int .i64 x1_2, .int .i64 ((rd_T68 l0_3 x6_2).f0)] rfl (by (try simp only [m3]); first | done | rfl | (simp only [d2]; rfl)) ?_; (with_reducible refine (spec_l1Has.calls x1_2 ((rd_T68 l0_3 x6_2).f0) false _ A8.out).mono ?_); rintro e w' ⟨rfl, ⟨nd, rfl⟩⟩; refine ⟨_, rfl, ?_⟩))
         go_roundg k2
         case measure => have := HK1.out; have := HK2.out; omega
         case rel => exact ⟨(x1_2), (wrap64 (x6_2 + 1)), (by first | rfl | (simp; done) | (simp [*]; done) | (rw [Int.tmod_eq_emod_of_nonneg (Int.natCast_nonneg _)]; done)), (by first | rfl | (simp; done) | (simp [*]; done) | (rw [Int.tmod_eq_emod_of_nonneg (Int.natCast_nonneg _)]; done)), H', ⟨by have := HK1.out; have := HK2.out; omega⟩, ⟨zB BK238.out⟩, ⟨zS HB.out⟩⟩
       ·rw [if_neg c7] at H; exact absurd H (by simp)
      ·rw [if_neg c6] at H; have c6b0 : decide (x6_2 < (l0_3.length : Int)) = false := decide_eq_false c6; clear c6; have H' := Aside0.mk H; clear H; have hcz13_0 : wr.cell? ⟨gb238, 0, none⟩ = some (.int .i64 a0_0) := b1 BK238 0; have hcz13_1 : wr.cell? ⟨gb238, 1, none⟩ = some (.int .i64 a0_1) := b1 BK238 1; have hcz13_2 : wr.cell? ⟨gb238, 2, none⟩ = some (.int .i64 a0_2) := b1 BK238 2; have hcz13_3 : wr.cell? ⟨gb238, 3, none⟩ = some (.slice A0_3 l0_3.length c0_3) := b1 BK238 3; have hfz13_0 := blk_frozen BK238.out 0; have hfz13_1 := blk_frozen BK238.out 1; have hfz13_2 := blk_frozen BK238.out 2; have hfz13_3 := blk_frozen BK238.out 3
       go_wp2
       go_roundg k2
       case measure => have := HK1.out; have := HK2.out; omega
       case rel => exact ⟨(x1_2), (wrap64 (x5_1 + 1)), (by first | rfl | (simp; done) | (simp [*]; done) | (rw [Int.tmod_eq_emod_of_nonneg (Int.natCast_nonneg _)]; done)), (by first | rfl | (simp; done) | (simp [*]; done) | (rw [Int.tmod_eq_emod_of_nonneg (Int.natCast_nonneg _)]; done)), H', ⟨by have := HK1.out; have := HK2.out; omega⟩, ⟨zB BK238.out⟩, ⟨zS HB.out⟩⟩
   ·rw [if_neg c4] at H; have c4b0 : decide (x5_1 ≤ a0_1) = false := decide_eq_false c4; clear c4; obtain rfl := Option.some.inj H; have hcz14_0 : wr.cell? ⟨gb238, 0, none⟩ = some (.int .i64 a0_0) := b1 BK238 0; have hcz14_1 : wr.cell? ⟨gb238, 1, none⟩ = some (.int .i64 a0_1) := b1 BK238 1; have hcz14_2 : wr.cell? ⟨gb238, 2, none⟩ = some (.int .i64 a0_2) := b1 BK238 2; have hcz14_3 : wr.cell? ⟨gb238, 3, none⟩ = some (.slice A0_3 l0_3.length c0_3) := b1 BK238 3; have hfz14_0 := blk_frozen BK238.out 0; have hfz14_1 := blk_frozen BK238.out 1; have hfz14_2 := blk_frozen BK238.out 2; have hfz14_3 := blk_frozen BK238.out 3
    go_wp2
    go_ret; exact ⟨by first | rfl | (simp [errW_none, errW_some] <;> rfl) | (simp [*, errW_none, errW_some] <;> rfl), by repeat (first | (with_reducible first | exact HB.out | apply below_alloc | apply pw_below_drewN | apply below_drew1 | refine below_set ?_ GE238.out) | exact HB.out)⟩

section
open Go.Proofs.Ytlallflpicgcmaa.Short2.T
abbrev spec_l4Keep.bl0 : Array Bool := #[f, f, f, f, f, f, f, f, f, f]
abbrev spec_l4Keep.bl1 : Array Bool := #[t, f, f, f, f, f, f, f, f, f]
abbrev spec_l4Keep.bl2 : Array Bool := #[t, f, t, f, f, f, f, f, f, f]
abbrev spec_l4Keep.bl3 : Array Bool := #[t, f, t, t, f, f, f, f, f, f]
abbrev spec_l4Keep.bl4 : Array Bool := #[t, f, t, t, t, f, f, f, f, f]
abbrev spec_l4Keep.bl5 : Array Bool := #[t, t, t, t, t, f, f, f, f, f]
abbrev spec_l4Keep.bl6 : Array Bool := #[t, t, t, t, t, t, f, f, f, f]
abbrev spec_l4Keep.bl7 : Array Bool := #[t, t, t, t, t, t, t, f, f, f]
abbrev spec_l4Keep.bl8 : Array Bool := #[t, t, t, t, t, t, t, t, f, f]
abbrev spec_l4Keep.bl9 : Array Bool := #[t, t, t, t, t, t, t, t, t, f]
abbrev spec_l4Keep.bl10 : Array Bool := #[t, t, t, t, t, t, t, t, t, t]
abbrev spec_l4Keep.bl11 : Array Bool := #[f, f, f, f, f, f, f, f, f, f, f, f, f, f, f, f, f, f, f, f, f]
abbrev spec_l4Keep.bl12 : Array Bool := #[t, f, f, f, f, f, f, f, f, f, f, f, f, f, f, f, f, f, f, f, f]
abbrev spec_l4Keep.bl13 : Array Bool := #[t, f, t, f, f, f, f, f, f, f, f, f, f, f, f, f, f, f, f, f, f]
abbrev spec_l4Keep.bl14 : Array Bool := #[t, f, t, t, f, f, f, f, f, f, f, f, f, f, f, f, f, f, f, f, f]
abbrev spec_l4Keep.bl15 : Array Bool := #[t, f, t, t, f, f, f, t, f, f, f, f, f, f, f, f, f, f, f, f, f]
abbrev spec_l4Keep.bl16 : Array Bool := #[t, f, t, t, f, f, f, t, f, t, f, f, f, f, f, f, f, f, f, f, f]
abbrev spec_l4Keep.bl17 : Array Bool := #[t, f, t, t, f, f, f, t, f, t, t, f, f, f, f, f, f, f, f, f, f]
abbrev spec_l4Keep.bl18 : Array Bool := #[t, f, t, t, f, f, f, t, f, t, t, f, f, f, t, f, f, f, f, f, f]
abbrev spec_l4Keep.bl19 : Array Bool := #[t, t, t, t, f, f, f, t, f, t, t, f, f, f, t, f, f, f, f, f, f]
abbrev spec_l4Keep.bl20 : Array Bool := #[t, t, t, t, t, f, f, t, f, t, t, f, f, f, t, f, f, f, f, f, f]
abbrev spec_l4Keep.bl21 : Array Bool := #[t, t, t, t, t, t, f, t, f, t, t, f, f, f, t, f, f, f, f, f, f]
abbrev spec_l4Keep.bl22 : Array Bool := #[t, t, t, t, t, t, t, t, f, t, t, f, f, f, t, f, f, f, f, f, f]
abbrev spec_l4Keep.bl23 : Array Bool := #[t, t, t, t, t, t, t, t, t, t, t, f, f, f, t, f, f, f, f, f, f]
abbrev spec_l4Keep.bl24 : Array Bool := #[t, t, t, t, t, t, t, t, t, t, t, t, f, f, t, f, f, f, f, f, f]
abbrev spec_l4Keep.bl25 : Array Bool := #[t, t, t, t, t, t, t, t, t, t, t, t, t, f, t, f, f, f, f, f, f]
abbrev spec_l4Keep.bl26 : Array Bool := #[t, t, t, t, t, t, t, t, t, t, t, t, t, t, t, f, f, f, f, f, f]
abbrev spec_l4Keep.bl27 : Array Bool := #[t, t, t, t, t, t, t, t, t, t, t, t, t, t, t, t, f, f, f, f, f]
abbrev spec_l4Keep.bl28 : Array Bool := #[t, t, t, t, t, t, t, t, t, t, t, t, t, t, t, t, t, f, f, f, f]
abbrev spec_l4Keep.bl29 : Array Bool := #[t, t, t, t, t, t, t, t, t, t, t, t, t, t, t, t, t, t, f, f, f]
abbrev spec_l4Keep.bl30 : Array Bool := #[t, t, t, t, t, t, t, t, t, t, t, t, t, t, t, t, t, t, t, f, f]
abbrev spec_l4Keep.bl31 : Array Bool := #[t, t, t, t, t, t, t, t, t, t, t, t, t, t, t, t, t, t, t, t, f]
abbrev spec_l4Keep.bl32 : Array Bool := #[t, t, t, t, t, t, t, t, t, t, t, t, t, t, t, t, t, t, t, t, t]
end
/-! ### spec_l4Keep: function 93 -/
mutual
def spec_l4Keep.l0 : Nat → Int → List Int → List Int → Int → Int → Int → Int → List (S68) → Option (Int × Int × Int × (List (S68)) × List Int)
 | 0, _, _, _, _, _, _, _, _ => none
 | k + 1, x1, x6, x7, x8, x244000, x244001, x244002, x244003 => if x8 < x244001 then (if x7.length < 17592186044416 then ((some (x7 ++ [(x6.length : Int)] : List Int)).bind fun y251 => ((spec_l1Has.f x1 x8).bind fun t254 => (if t254 = true then (if x6.length < 17592186044416 then (spec_l4Keep.l0 k x1 (x6 ++ [x8]) y251 (wrap64 (x8 + 1)) x244000 x244001 x244002 x244003) else (none)) else (spec_l4Keep.l0 k x1 x6 y251 (wrap64 (x8 + 1)) x244000 x244001 x244002 x244003)))) else (none)) else (spec_l4Keep.l1 k x1 x6 x7 0 x244000 x244001 x244002 x244003 x244000 (x6.length : Int) 0)
def spec_l4Keep.l1 : Nat → Int → List Int → List Int → Int → Int → Int → Int → List (S68) → Int → Int → Int → Option (Int × Int × Int × (List (S68)) × List Int)
 | 0, _, _, _, _, _, _, _, _, _, _, _ => none
 | k + 1, x1, x6, x7, x10, x244000, x244001, x244002, x244003, x259000, x259001, x259002 => if x10 < x244001 then ((spec_l1Has.f x1 x10).bind fun t259 => (if t259 = true then ((spec_l1Has.f x244002 x10).bind fun t260 => (if t260 = true then (if 0 ≤ x10 then (if x10 < (x7.length : Int) then ((spec_l1Bit.f (rd x7 x10)).bind fun t262 => (spec_l4Keep.l1 k x1 x6 x7 (wrap64 (x10 + 1)) x244000 x244001 x244002 x244003 x259000 x259001 (Go.bits .or .i64 x259002 t262))) else (none)) else (none)) else (spec_l4Keep.l1 k x1 x6 x7 (wrap64 (x10 + 1)) x244000 x244001 x244002 x244003 x259000 x259001 x259002))) else (spec_l4Keep.l1 k x1 x6 x7 (wrap64 (x10 + 1)) x244000 x244001 x244002 x244003 x259000 x259001 x259002))) else (spec_l4Keep.l2 k x1 x6 x7 0 x244000 x244001 x244002 x244003 x259000 x259001 x259002 ([] : List (S68)))
def spec_l4Keep.l2 : Nat → Int → List Int → List Int → Int → Int → Int → Int → List (S68) → Int → Int → Int → List (S68) → Option (Int × Int × Int × (List (S68)) × List Int)
 | 0, _, _, _, _, _, _, _, _, _, _, _, _ => none
 | k + 1, x1, x6, x7, x11, x244000, x244001, x244002, x244003, x259000, x259001, x259002, x259003 => if x11 < (x244003.length : Int) then (if 0 ≤ x11 then ((spec_l1Has.f x1 ((rd_T68 x244003 x11).f0)).bind fun t265 => (if t265 = true then ((spec_l1Has.f x1 ((rd_T68 x244003 x11).f2)).bind fun t266 => (if t266 = true then (if 0 ≤ ((rd_T68 x244003 x11).f0) then (if ((rd_T68 x244003 x11).f0) < (x7.length : Int) then (if 0 ≤ ((rd_T68 x244003 x11).f2) then (if ((rd_T68 x244003 x11).f2) < (x7.length : Int) then (if x259003.length < 4398046511104 then (spec_l4Keep.l2 k x1 x6 x7 (wrap64 (x11 + 1)) x244000 x244001 x244002 x244003 x259000 x259001 x259002 (x259003 ++ [(⟨rd x7 ((rd_T68 x244003 x11).f0), (rd_T68 x244003 x11).f1, rd x7 ((rd_T68 x244003 x11).f2), (rd_T68 x244003 x11).f3⟩ : S68)])) else (none)) else (none)) else (none)) else (none)) else (none)) else (spec_l4Keep.l2 k x1 x6 x7 (wrap64 (x11 + 1)) x244000 x244001 x244002 x244003 x259000 x259001 x259002 x259003))) else (spec_l4Keep.l2 k x1 x6 x7 (wrap64 (x11 + 1)) x244000 x244001 x244002 x244003 x259000 x259001 x259002 x259003))) else (none)) else (some (x259000, x259001, x259002, x259003, x6))
end
def spec_l4Keep.f (k : Nat) (a0_0 : Int) (a0_1 : Int) (a0_2 : Int) (l0_3 : List (S68)) (a1 : Int) : Option (Int × Int × Int × (List (S68)) × List Int) := spec_l4Keep.l0 k a1 (([] : List Int)) (([] : List Int)) 0 a0_0 a0_1 a0_2 l0_3
theorem spec_l4Keep.mono_l : ∀ k, (∀ y0 y1 y2 y3 y4 y5 y6 y7, LeO (spec_l4Keep.l0 k y0 y1 y2 y3 y4 y5 y6 y7) (spec_l4Keep.l0 (k + 1) y0 y1 y2 y3 y4 y5 y6 y7)) ∧ (∀ y0 y1 y2 y3 y4 y5 y6 y7 y8 y9 y10, LeO (spec_l4Keep.l1 k y0 y1 y2 y3 y4 y5 y6 y7 y8 y9 y10) (spec_l4Keep.l1 (k + 1) y0 y1 y2 y3 y4 y5 y6 y7 y8 y9 y10)) ∧ (∀ y0 y1 y2 y3 y4 y5 y6 y7 y8 y9 y10 y11, LeO (spec_l4Keep.l2 k y0 y1 y2 y3 y4 y5 y6 y7 y8 y9 y10 y11) (spec_l4Keep.l2 (k + 1) y0 y1 y2 y3 y4 y5 y6 y7 y8 y9 y10 y11))
 | 0 => ⟨fun _ _ _ _ _ _ _ _ r h => by simp [spec_l4Keep.l0] at h, fun _ _ _ _ _ _ _ _ _ _ _ r h => by simp [spec_l4Keep.l1] at h, fun _ _ _ _ _ _ _ _ _ _ _ _ r h => by simp [spec_l4Keep.l2] at h⟩
 | k + 1 => by
  obtain ⟨ih0, ih1, ih2⟩ := spec_l4Keep.mono_l k
  refine ⟨?_, ?_, ?_⟩
  ·intro y0 y1 y2 y3 y4 y5 y6 y7
   unfold spec_l4Keep.l0
   repeat' first
   | (with_reducible exact ih0 _ _ _ _ _ _ _ _)
   | (with_reducible exact ih1 _ _ _ _ _ _ _ _ _ _ _)
   | (with_reducible exact ih2 _ _ _ _ _ _ _ _ _ _ _ _)
   | (with_reducible exact LeO.refl _)
   | (with_reducible exact LeO.none _)
   | (with_reducible refine LeO.ite ?_ ?_)
   | (with_reducible refine LeO.bind ?_ (fun _ => ?_))
   | exact ih0 _ _ _ _ _ _ _ _
   | exact ih1 _ _ _ _ _ _ _ _ _ _ _
   | exact ih2 _ _ _ _ _ _ _ _ _ _ _ _
   | exact LeO.none _
   | refine LeO.ite ?_ ?_
   | refine LeO.bind ?_ (fun _ => ?_)
  ·intro y0 y1 y2 y3 y4 y5 y6 y7 y8 y9 y10
   unfold spec_l4Keep.l1
   repeat' first
   | (with_reducible exact ih0 _ _ _ _ _ _ _ _)
   | (with_reducible exact ih1 _ _ _ _ _ _ _ _ _ _ _)
   | (with_reducible exact ih2 _ _ _ _ _ _ _ _ _ _ _ _)
   | (with_reducible exact LeO.refl _)
   | (with_reducible exact LeO.none _)
   | (with_reducible refine LeO.ite ?_ ?_)
   | (with_reducible refine LeO.bind ?_ (fun _ => ?_))
   | exact ih0 _ _ _ _ _ _ _ _
   | exact ih1 _ _ _ _ _ _ _ _ _ _ _
   | exact ih2 _ _ _ _ _ _ _ _ _ _ _ _
   | exact LeO.none _
   | refine LeO.ite ?_ ?_
   | refine LeO.bind ?_ (fun _ => ?_)
  ·intro y0 y1 y2 y3 y4 y5 y6 y7 y8 y9 y10 y11
   unfold spec_l4Keep.l2
   repeat' first
   | (with_reducible exact ih0 _ _ _ _ _ _ _ _)
   | (with_reducible exact ih1 _ _ _ _ _ _ _ _ _ _ _)
   | (with_reducible exact ih2 _ _ _ _ _ _ _ _ _ _ _ _)
   | (with_reducible exact LeO.refl _)
   | (with_reducible exact LeO.none _)
   | (with_reducible refine LeO.ite ?_ ?_)
   | (with_reducible refine LeO.bind ?_ (fun _ => ?_))
   | exact ih0 _ _ _ _ _ _ _ _
   | exact ih1 _ _ _ _ _ _ _ _ _ _ _
   | exact ih2 _ _ _ _ _ _ _ _ _ _ _ _
   | exact LeO.none _
   | refine LeO.ite ?_ ?_
   | refine LeO.bind ?_ (fun _ => ?_)
theorem spec_l4Keep.mono : ∀ a0 a1 a2 a3 a4 k, LeO (spec_l4Keep.f k a0 a1 a2 a3 a4) (spec_l4Keep.f (k + 1) a0 a1 a2 a3 a4) := by
 intro a0 a1 a2 a3 a4 k
 obtain ⟨ih0, ih1, ih2⟩ := spec_l4Keep.mono_l k
 unfold spec_l4Keep.f
 repeat' first
   | (with_reducible exact ih0 _ _ _ _ _ _ _ _)
   | (with_reducible exact ih1 _ _ _ _ _ _ _ _ _ _ _)
   | (with_reducible exact ih2 _ _ _ _ _ _ _ _ _ _ _ _)
   | (with_reducible exact LeO.refl _)
   | (with_reducible exact LeO.none _)
   | (with_reducible refine LeO.ite ?_ ?_)
   | (with_reducible refine LeO.bind ?_ (fun _ => ?_))
   | exact ih0 _ _ _ _ _ _ _ _
   | exact ih1 _ _ _ _ _ _ _ _ _ _ _
   | exact ih2 _ _ _ _ _ _ _ _ _ _ _ _
   | exact LeO.none _
   | refine LeO.ite ?_ ?_
   | refine LeO.bind ?_ (fun _ => ?_)
def spec_l4Keep.T14 : Bool × List (List Nat × List Nat) := (true, [([], []), ([0], [0]), ([], []), ([], []), ([2, 3], [2, 3]), ([4], [4]), ([5], [5]), ([1, 6], [1, 6]), ([0, 1, 2, 3, 4, 5, 6, 7], []), ([8, 7, 6, 0, 1, 2, 3, 4, 5, 6, 7], [7, 8])])
def spec_l4Keep.B14 : List Nat := [0, 1, 0, 0, 12, 28, 60, 127, 255, 511]
theorem spec_l4Keep.tab14 : rtab .any (opsOf Try.f93 14) = spec_l4Keep.T14 := by kernel_rfl
theorem spec_l4Keep.bits14 : waitsOk spec_l4Keep.T14.2 spec_l4Keep.B14 = true := by kernel_rfl
def spec_l4Keep.T20 : Bool × List (List Nat × List Nat) := (true, [([], []), ([0], [0]), ([], []), ([], []), ([3], [3]), ([2, 4], [2, 4]), ([5], [5]), ([], []), ([7], [7]), ([], []), ([], []), ([10], [10]), ([9, 11], [9, 11]), ([12], [12]), ([], []), ([14], [14]), ([6, 8, 13, 15], [6, 8, 13, 15]), ([16], [16]), ([1, 17], [1, 17]), ([0, 1, 2, 3, 4, 5, 6, 7, 8, 9, 10, 11, 12, 13, 14, 15, 16, 17, 18], []), ([19, 18, 18, 0, 1, 2, 3, 4, 5, 6, 7, 8, 9, 10, 11, 12, 13, 14, 15, 16, 17, 18], [18, 19])])
def spec_l4Keep.B20 : List Nat := [0, 1, 0, 0, 8, 28, 60, 0, 128, 0, 0, 1024, 3584, 7680, 0, 16384, 65532, 131068, 262143, 524287, 1048575]
theorem spec_l4Keep.tab20 : rtab .any (opsOf Try.f93 20) = spec_l4Keep.T20 := by kernel_rfl
theorem spec_l4Keep.bits20 : waitsOk spec_l4Keep.T20.2 spec_l4Keep.B20 = true := by kernel_rfl
open Go.Proofs.Ytlallflpicgcmaa.Short2 in
set_option maxHeartbeats 8000000 in
set_option maxRecDepth 100000 in
theorem spec_l4Keep.calls (k : Nat) (a0_0 : Int) (a0_1 : Int) (a0_2 : Int) (A0_3 : Option Addr) (c0_3 : Nat) (l0_3 : List (S68)) (a1 : Int) (r1 : Int) (r2 : Int) (r3 : Int) (r4 : List (S68)) (r5 : List Int) (w : World) (hr0_3 : Kd.C k68 w A0_3 l0_3.length l0_3) (hc0_3 : l0_3.length ≤ c0_3) (h : spec_l4Keep.f k a0_0 a0_1 a0_2 l0_3 a1 = some (r1, r2, r3, r4, r5)) :
  Calls Try.prog 93 #[.agg #[.int .i64 a0_0, .int .i64 a0_1, .int .i64 a0_2, .slice A0_3 l0_3.length c0_3], .int .i64 a1] w fun e w' => ∃ v3_ v4_ : Value, e = .returned (.tuple #[.agg #[.int .i64 r1, .int .i64 r2, .int .i64 r3, v3_], v4_]) ∧ Kd.R k68 68 w' w.heap.size (fun _ => True) v3_ r4 ∧ Kd.R (Kd.int .i64) 3 w' w.heap.size (fun _ => True) v4_ r5 ∧ Below w.heap.size w w' := by
 have hu24 := Try.underlying24; have hu68 := Try.underlying68; have HR0_3 := Aside0.mk hr0_3; have HC0_3 := Aside0.mk hc0_3; clear hr0_3 hc0_3; have HB := Aside0.mk (Below.refl w.heap.size w); have H : (spec_l4Keep.l0 k a1 (([] : List Int)) (([] : List Int)) 0 a0_0 a0_1 a0_2 l0_3) = some (r1, r2, r3, r4, r5) := h; clear h; obtain ⟨y245, hy245⟩ : ∃ y_ : List Int, y_ = (([] : List Int)) := ⟨_, rfl⟩
 replace H : (spec_l4Keep.l0 k a1 y245 (([] : List Int)) 0 a0_0 a0_1 a0_2 l0_3) = some (r1, r2, r3, r4, r5) := by first | (rw [hy245]; with_reducible exact H) | (have H2_ := (Option.bind_some _ _).symm.trans H; rw [hy245]; with_reducible exact H2_) | (have H2_ := (Option.bind_some _ _).symm.trans H; with_reducible exact H2_) | with_reducible exact H | (rw [hy245]; exact H) | exact H
 have Ny245 := Aside0.mk hy245; clear hy245; obtain ⟨y248, hy248⟩ : ∃ y_ : List Int, y_ = (([] : List Int)) := ⟨_, rfl⟩
 replace H : (spec_l4Keep.l0 k a1 y245 y248 0 a0_0 a0_1 a0_2 l0_3) = some (r1, r2, r3, r4, r5) := by first | (rw [hy248]; with_reducible exact H) | (have H2_ := (Option.bind_some _ _).symm.trans H; rw [hy248]; with_reducible exact H2_) | (have H2_ := (Option.bind_some _ _).symm.trans H; with_reducible exact H2_) | with_reducible exact H | (rw [hy248]; exact H) | exact H
 have Ny248 := Aside0.mk hy248; clear hy248; have H' := Aside0.mk H; clear H
 go_enter Try.func93, Try.ntmps93
 go_wp2_with (first | ((with_reducible refine gate_dst (N := 2) rfl ?_); refine box_event ?hg (N := 2) ?hd (cs := #[.int .i64 a0_0, .int .i64 a0_1, .int .i64 a0_2, .slice A0_3 l0_3.length c0_3]) (t := 24) ?hr ?_; (case hd => rfl); (case hg => rfl); (case hr => first | (go_simp; done) | (go_simp; rfl)); intro gb243 hg w3 hbox hb; have BK243 := Aside0.mk (hbox); have GW243 := xG HB hg; have GE243 := xG HB hg; replace HB := xS HB hb; clear hb hbox hg) | ((with_reducible refine gate_dst (N := 4) rfl ?_); refine box_event ?hg (N := 4) ?hd (cs := #[.int .i64 0, .int .i64 0, .int .i64 0, .slice none 0 0]) (t := 24) ?hr ?_; (case hd => rfl); (case hg => rfl); (case hr => first | (go_simp; done) | (go_simp; rfl)); intro gb244 hg w4 hbox hb; have BK244 := Aside0.mk (hbox); have GW244 := xG HB hg; have GE244 := xG HB hg; replace HB := xS HB hb; have NB243_244 := xN BK243 hg; have NB244_243 := xM BK243 hg; replace BK243 := xB BK243 hb; clear hb hbox hg) | ((with_reducible refine gate_dst (N := 13) rfl ?_); refine Kd.R_lit (Kd.int .i64) _ 3 ?hg (N := 13) ?hd (xs := ([] : List Int)) (inner := []) (ok := fun _ => True) (okp := fun _ => True) ?hr ?hp (fun _ hk => hk) trivial (Below.refl _ _) (Nat.le_refl _) (by simp) ?_; (case hd => rfl); (case hg => rfl); (case hr => first | (go_simp; done) | (go_simp; rfl)); (case hp => exact (Reps.none _ _)); intro v246 w5 ho6 hb hg_ hnew_; clear hg_ hnew_; (first | rw [← Ny245.out] at ho6 | (simp only [Int.reduceToNat] at ho6; rw [← Ny245.out] at ho6)); have HO247 := Aside0.mk (Kd.R_lower ho6 (below_size (zS HB.out))); replace BK243 := xB BK243 hb; replace BK244 := xB BK244 hb; replace HB := xS HB hb; clear hb ho6) | ((with_reducible refine gate_dst (N := 14) rfl ?_); refine Kd.R_lit (Kd.int .i64) _ 3 ?hg (N := 14) ?hd (xs := ([] : List Int)) (inner := []) (ok := fun _ => True) (okp := fun _ => True) ?hr ?hp (fun _ hk => hk) trivial (Below.refl _ _) (Nat.le_refl _) (by simp) ?_; (case hd => rfl); (case hg => rfl); (case hr => first | (go_simp; done) | (go_simp; rfl)); (case hp => exact (Reps.none _ _)); intro v249 w7 ho8 hb hg_ hnew_; clear hg_ hnew_; (first | rw [← Ny248.out] at ho8 | (simp only [Int.reduceToNat] at ho8; rw [← Ny248.out] at ho8)); have HO250 := Aside0.mk (Kd.R_lower (Kd.R_new' ho8 (Kd.R_lt (zR HO247.out))) (below_size (zS HB.out))); replace HO247 := xE HO247 ho8 hb; replace BK243 := xB BK243 hb; replace BK244 := xB BK244 hb; replace HB := xS HB hb; clear hb ho8))
 go_loopg [6, 7, 8] k (fun kq v6 v7 v8 w' => ∃ (x6_1 : List Int) (x7_1 : List Int) (x8_1 : Int), v8 = .int .i64 x8_1 ∧ Aside0 (spec_l4Keep.l0 kq a1 x6_1 x7_1 x8_1 a0_0 a0_1 a0_2 l0_3 = some (r1, r2, r3, r4, r5)) ∧ Aside0 (kq ≤ k) ∧ Aside0 (Kd.R (Kd.int .i64) 3 w' w.heap.size (fun k_ => some k_ ≠ (v7 : Value).ownBlock) v6 x6_1) ∧ Aside0 (Kd.R (Kd.int .i64) 3 w' w.heap.size (fun k_ => some k_ ≠ (v6 : Value).ownBlock) v7 x7_1) ∧ Aside0 (w'.heap[gb243]? = some (.cells #[.int .i64 a0_0, .int .i64 a0_1, .int .i64 a0_2, (.slice A0_3 l0_3.length c0_3)] 24 (0, 0))) ∧ Aside0 (w'.heap[gb244]? = some (.cells #[.int .i64 0, .int .i64 0, .int .i64 0, (.slice none 0 0)] 24 (0, 0))) ∧ Aside0 (Below w.heap.size w w'))
 case atStart => exact ⟨(y245), (y248), (0), (by first | rfl | (simp; done) | (simp [*]; done) | (rw [Int.tmod_eq_emod_of_nonneg (Int.natCast_nonneg _)]; done)), H', ⟨Nat.le_refl _⟩, ⟨by (with_reducible repeat (first | apply Kd.R_alloc | apply Kd.R_drewN | apply Kd.R_drew)); exact Kd.R_mono HO247.out (fun _ hk => hk.2)⟩, ⟨by (with_reducible repeat (first | apply Kd.R_alloc | apply Kd.R_drewN | apply Kd.R_drew)); exact Kd.R_mono HO250.out (fun _ hk => hk.2)⟩, ⟨zB BK243.out⟩, ⟨zB BK244.out⟩, ⟨zS HB.out⟩⟩
 case round =>
  clear H'
  try clear p2
  obtain ⟨x6_1, x7_1, x8_1, rfl, HA, HK1, HO_6, HO_7, BK243, BK244, HB⟩ := hrel
  cases gk with
  | zero => exact absurd HA.out (by simp [spec_l4Keep.l0])
  | succ k1 =>
   have H := HA.out; clear HA; simp only [spec_l4Keep.l0] at H
   by_cases c9 : x8_1 < a0_1
   ·rw [if_pos c9] at H; have c9b0 : decide (x8_1 < a0_1) = true := decide_eq_true c9; clear c9
    by_cases c10 : x7_1.length < 17592186044416
    ·rw [if_pos c10] at H; have LMc10 := Aside0.mk c10; clear c10; obtain ⟨y251, hy251⟩ : ∃ y_ : List Int, y_ = (x7_1 ++ [(x6_1.length : Int)]) := ⟨_, rfl⟩
     replace H : ((spec_l1Has.f a1 x8_1).bind fun t254 => (if t254 = true then (if x6_1.length < 17592186044416 then (spec_l4Keep.l0 k1 a1 (x6_1 ++ [x8_1]) y251 (wrap64 (x8_1 + 1)) a0_0 a0_1 a0_2 l0_3) else (none)) else (spec_l4Keep.l0 k1 a1 x6_1 y251 (wrap64 (x8_1 + 1)) a0_0 a0_1 a0_2 l0_3))) = some (r1, r2, r3, r4, r5) := by first | (rw [hy251]; with_reducible exact H) | (have H2_ := (Option.bind_some _ _).symm.trans H; rw [hy251]; with_reducible exact H2_) | (have H2_ := (Option.bind_some _ _).symm.trans H; with_reducible exact H2_) | with_reducible exact H | (rw [hy251]; exact H) | exact H
     have Ny251 := Aside0.mk hy251; clear hy251; replace H := Option.bind_eq_some_iff.mp H; obtain ⟨t254, A110, H⟩ := H; replace H : (if t254 = true then (if x6_1.length < 17592186044416 then (spec_l4Keep.l0 k1 a1 (x6_1 ++ [x8_1]) y251 (wrap64 (x8_1 + 1)) a0_0 a0_1 a0_2 l0_3) else (none)) else (spec_l4Keep.l0 k1 a1 x6_1 y251 (wrap64 (x8_1 + 1)) a0_0 a0_1 a0_2 l0_3)) = some (r1, r2, r3, r4, r5) := H; have A11 := Aside0.mk A110; clear A110
     by_cases c12 : t254 = true
     ·subst c12
      have H1 : (if x6_1.length < 17592186044416 then (spec_l4Keep.l0 k1 a1 (x6_1 ++ [x8_1]) y251 (wrap64 (x8_1 + 1)) a0_0 a0_1 a0_2 l0_3) else (none)) = some (r1, r2, r3, r4, r5) := by rw [if_pos rfl] at H; exact H
      clear H; have H := H1; clear H1
      by_cases c13 : x6_1.length < 17592186044416
      ·rw [if_pos c13] at H; have LMc13 := Aside0.mk c13; clear c13; obtain ⟨y255, hy255⟩ : ∃ y_ : List Int, y_ = (x6_1 ++ [x8_1]) := ⟨_, rfl⟩
       replace H : (spec_l4Keep.l0 k1 a1 y255 y251 (wrap64 (x8_1 + 1)) a0_0 a0_1 a0_2 l0_3) = some (r1, r2, r3, r4, r5) := by first | (rw [hy255]; with_reducible exact H) | (have H2_ := (Option.bind_some _ _).symm.trans H; rw [hy255]; with_reducible exact H2_) | (have H2_ := (Option.bind_some _ _).symm.trans H; with_reducible exact H2_) | with_reducible exact H | (rw [hy255]; exact H) | exact H
       have Ny255 := Aside0.mk hy255; clear hy255; have H' := Aside0.mk H; clear H; have hnb14 := NB243_244.out; have hnc14 := NB244_243.out; have hcz15_0 : wr.cell? ⟨gb243, 0, none⟩ = some (.int .i64 a0_0) := b1 BK243 0; have hcz15_1 : wr.cell? ⟨gb243, 1, none⟩ = some (.int .i64 a0_1) := b1 BK243 1; have hcz15_2 : wr.cell? ⟨gb243, 2, none⟩ = some (.int .i64 a0_2) := b1 BK243 2; have hcz15_3 : wr.cell? ⟨gb243, 3, none⟩ = some (.slice A0_3 l0_3.length c0_3) := b1 BK243 3; have hfz15_0 := blk_frozen BK243.out 0; have hfz15_1 := blk_frozen BK243.out 1; have hfz15_2 := blk_frozen BK243.out 2; have hfz15_3 := blk_frozen BK243.out 3; obtain ⟨Ao16, co16, eo16⟩ := Kd.R_slice HO_6.out; subst eo16
       go_wp2_with (first | ((with_reducible refine gate_builtin (b := .append) (xs := #[.tmp 21, .tmp 24]) rfl ?_); at_builtin; refine Kd.R_append (Kd.int .i64) (w0 := w) w.heap.size rfl (.tmp 21) (.tmp 24) 63 3 (.int .i64 0) 8 rfl Try.underlying63 info3 rfl (by decide) (by omega) u7 x7_1 (x6_1.length : Int) [.int .i64 (x6_1.length : Int)] (fun k_ => some k_ ≠ (.slice Ao16 x6_1.length co16 : Value).ownBlock) (fun _ => False) rfl rfl ?aP (fun _ hk => hk.elim) ?aF ?aO ?aB ?aS ?aL ?_; (case aP => exact rfl); (case aB => exact (zS HB.out)); (case aF => exact (fun k_ hk => Kd.fresh' (Kd.R_lt (zR HO_6.out)) k_ hk)); (case aO => exact (zR HO_7.out)); (case aS => exact (below_size (zS HB.out))); (case aL => have := LMc10.out; omega); intro v252 w17 ho hb hg hat; rw [← Ny251.out] at ho; have n0_ := Aside0.mk (Kd.R_after (ok := (fun _ => True)) (by (with_reducible repeat (first | apply Kd.R_alloc | apply Kd.R_drewN | apply Kd.R_drew)); exact Kd.R_mono HO_6.out (fun _ hk => ⟨trivial, hk⟩)) hg hat); have n1_ := Aside0.mk (blk_grown (g := gb243) (o := .cells #[.int .i64 a0_0, .int .i64 a0_1, .int .i64 a0_2, .slice A0_3 l0_3.length c0_3] 24 (0, 0)) (zB BK243.out) hg (Kd.R_ne HO_7.out BK243.out (by decide))); have n2_ := Aside0.mk (blk_grown (g := gb244) (o := .cells #[.int .i64 0, .int .i64 0, .int .i64 0, .slice none 0 0] 24 (0, 0)) (zB BK244.out) hg (Kd.R_ne HO_7.out BK244.out (by decide))); have n3_ := Aside0.mk (hb); have n4_ := Aside0.mk (ho); clear HO_6; clear BK243; clear BK244; clear HB; clear HO_7; have HO_6 := n0_; have BK243 := n1_; have BK244 := n2_; have HB := n3_; have HO253 := n4_; clear n0_ n1_ n2_ n3_ n4_; clear ho hb hg hat) | ((with_reducible refine gate_callee (f := 96) rfl ?_); refine goesL_ (some 28) rfl rfl Try.func96 (by kernel_rfl) rfl #[.int .i64 a1, .int .i64 x8_1] rfl (by (try simp only [m3]); first | done | rfl | (simp only [d2]; rfl)) ?_; (with_reducible refine (spec_l1Has.calls a1 x8_1 true _ A11.out).mono ?_); rintro e w' ⟨rfl, ⟨nd, rfl⟩⟩; refine ⟨_, rfl, ?_⟩) | ((with_reducible refine gate_builtin (b := .append) (xs := #[.tmp 29, .tmp 31]) rfl ?_); at_builtin; refine Kd.R_append (Kd.int .i64) (w0 := w) w.heap.size rfl (.tmp 29) (.tmp 31) 63 3 (.int .i64 0) 8 rfl Try.underlying63 info3 rfl (by decide) (by omega) (.slice Ao16 x6_1.length co16) x6_1 x8_1 [.int .i64 x8_1] (fun k_ => some k_ ≠ (v252 : Value).ownBlock) (fun _ => False) rfl rfl ?aP (fun _ hk => hk.elim) ?aF ?aO ?aB ?aS ?aL ?_; (case aP => exact rfl); (case aB => exact (zS HB.out)); (case aF => exact (fun k_ hk => Kd.fresh' (Kd.R_lt (zR HO253.out)) k_ hk)); (case aO => exact (by (with_reducible repeat (first | apply Kd.R_alloc | apply Kd.R_drewN | apply Kd.R_drew)); exact Kd.R_mono HO_6.out (fun _ hk => hk.2))); (case aS => exact (below_size (zS HB.out))); (case aL => have := LMc13.out; omega); intro v256 w18 ho hb hg hat; rw [← Ny255.out] at ho; have n0_ := Aside0.mk (blk_grown (g := gb243) (o := .cells #[.int .i64 a0_0, .int .i64 a0_1, .int .i64 a0_2, .slice A0_3 l0_3.length c0_3] 24 (0, 0)) (zB BK243.out) hg (Kd.R_ne HO_6.out BK243.out (by decide))); have n1_ := Aside0.mk (blk_grown (g := gb244) (o := .cells #[.int .i64 0, .int .i64 0, .int .i64 0, .slice none 0 0] 24 (0, 0)) (zB BK244.out) hg (Kd.R_ne HO_6.out BK244.out (by decide))); have n2_ := Aside0.mk (Kd.R_after (ok := (fun _ => True)) (by (with_reducible repeat (first | apply Kd.R_alloc | apply Kd.R_drewN | apply Kd.R_drew)); exact Kd.R_mono HO253.out (fun _ hk => ⟨trivial, hk⟩)) hg hat); have n3_ := Aside0.mk (hb); have n4_ := Aside0.mk (ho); clear BK243; clear BK244; clear HO253; clear HB; clear HO_6; have BK243 := n0_; have BK244 := n1_; have HO253 := n2_; have HB := n3_; have HO257 := n4_; clear n0_ n1_ n2_ n3_ n4_; clear ho hb hg hat))
       go_roundg k1
       case measure => have := HK1.out; omega
       case rel => exact ⟨(y255), (y251), (wrap64 (x8_1 + 1)), (by first | rfl | (simp; done) | (simp [*]; done) | (rw [Int.tmod_eq_emod_of_nonneg (Int.natCast_nonneg _)]; done)), H', ⟨by have := HK1.out; omega⟩, ⟨zR HO257.out⟩, ⟨by (with_reducible repeat (first | apply Kd.R_alloc | apply Kd.R_drewN | apply Kd.R_drew)); exact Kd.R_mono HO253.out (fun _ hk => hk.2)⟩, ⟨zB BK243.out⟩, ⟨zB BK244.out⟩, ⟨zS HB.out⟩⟩
      ·rw [if_neg c13] at H; exact absurd H (by simp)
     ·replace c12 := Bool.eq_false_iff.mpr c12; subst c12
      have H1 : (spec_l4Keep.l0 k1 a1 x6_1 y251 (wrap64 (x8_1 + 1)) a0_0 a0_1 a0_2 l0_3) = some (r1, r2, r3, r4, r5) := by rw [if_neg (show ¬ (false = true) by decide)] at H; exact H
      clear H; have H := H1; clear H1; have H' := Aside0.mk H; clear H; have hnb19 := NB243_244.out; have hnc19 := NB244_243.out; have hcz20_0 : wr.cell? ⟨gb243, 0, none⟩ = some (.int .i64 a0_0) := b1 BK243 0; have hcz20_1 : wr.cell? ⟨gb243, 1, none⟩ = some (.int .i64 a0_1) := b1 BK243 1; have hcz20_2 : wr.cell? ⟨gb243, 2, none⟩ = some (.int .i64 a0_2) := b1 BK243 2; have hcz20_3 : wr.cell? ⟨gb243, 3, none⟩ = some (.slice A0_3 l0_3.length c0_3) := b1 BK243 3; have hfz20_0 := blk_frozen BK243.out 0; have hfz20_1 := blk_frozen BK243.out 1; have hfz20_2 := blk_frozen BK243.out 2; have hfz20_3 := blk_frozen BK243.out 3; obtain ⟨Ao21, co21, eo21⟩ := Kd.R_slice HO_6.out; subst eo21
      go_wp2_with (first | ((with_reducible refine gate_builtin (b := .append) (xs := #[.tmp 21, .tmp 24]) rfl ?_); at_builtin; refine Kd.R_append (Kd.int .i64) (w0 := w) w.heap.size rfl (.tmp 21) (.tmp 24) 63 3 (.int .i64 0) 8 rfl Try.underlying63 info3 rfl (by decide) (by omega) u7 x7_1 (x6_1.length : Int) [.int .i64 (x6_1.length : Int)] (fun k_ => some k_ ≠ (.slice Ao21 x6_1.length co21 : Value).ownBlock) (fun _ => False) rfl rfl ?aP (fun _ hk => hk.elim) ?aF ?aO ?aB ?aS ?aL ?_; (case aP => exact rfl); (case aB => exact (zS HB.out)); (case aF => exact (fun k_ hk => Kd.fresh' (Kd.R_lt (zR HO_6.out)) k_ hk)); (case aO => exact (zR HO_7.out)); (case aS => exact (below_size (zS HB.out))); (case aL => have := LMc10.out; omega); intro v252 w22 ho hb hg hat; rw [← Ny251.out] at ho; have n0_ := Aside0.mk (Kd.R_after (ok := (fun _ => True)) (by (with_reducible repeat (first | apply Kd.R_alloc | apply Kd.R_drewN | apply Kd.R_drew)); exact Kd.R_mono HO_6.out (fun _ hk => ⟨trivial, hk⟩)) hg hat); have n1_ := Aside0.mk (blk_grown (g := gb243) (o := .cells #[.int .i64 a0_0, .int .i64 a0_1, .int .i64 a0_2, .slice A0_3 l0_3.length c0_3] 24 (0, 0)) (zB BK243.out) hg (Kd.R_ne HO_7.out BK243.out (by decide))); have n2_ := Aside0.mk (blk_grown (g := gb244) (o := .cells #[.int .i64 0, .int .i64 0, .int .i64 0, .slice none 0 0] 24 (0, 0)) (zB BK244.out) hg (Kd.R_ne HO_7.out BK244.out (by decide))); have n3_ := Aside0.mk (hb); have n4_ := Aside0.mk (ho); clear HO_6; clear BK243; clear BK244; clear HB; clear HO_7; have HO_6 := n0_; have BK243 := n1_; have BK244 := n2_; have HB := n3_; have HO253 := n4_; clear n0_ n1_ n2_ n3_ n4_; clear ho hb hg hat) | ((with_reducible refine gate_callee (f := 96) rfl ?_); refine goesL_ (some 28) rfl rfl Try.func96 (by kernel_rfl) rfl #[.int .i64 a1, .int .i64 x8_1] rfl (by (try simp only [m3]); first | done | rfl | (simp only [d2]; rfl)) ?_; (with_reducible refine (spec_l1Has.calls a1 x8_1 false _ A11.out).mono ?_); rintro e w' ⟨rfl, ⟨nd, rfl⟩⟩; refine ⟨_, rfl, ?_⟩))
      go_roundg k1
      case measure => have := HK1.out; omega
      case rel => exact ⟨(x6_1), (y251), (wrap64 (x8_1 + 1)), (by first | rfl | (simp; done) | (simp [*]; done) | (rw [Int.tmod_eq_emod_of_nonneg (Int.natCast_nonneg _)]; done)), H', ⟨by have := HK1.out; omega⟩, ⟨by (with_reducible repeat (first | apply Kd.R_alloc | apply Kd.R_drewN | apply Kd.R_drew)); exact Kd.R_mono HO_6.out (fun _ hk => hk.2)⟩, ⟨zR HO253.out⟩, ⟨zB BK243.out⟩, ⟨zB BK244.out⟩, ⟨zS HB.out⟩⟩
    ·rw [if_neg c10] at H; exact absurd H (by simp)
   ·rw [if_neg c9] at H; have c9b0 : decide (x8_1 < a0_1) = false := decide_eq_false c9; clear c9; have H' := Aside0.mk H; clear H; have hnb23 := NB243_244.out; have hnc23 := NB244_243.out; have hcz24_0 : wr.cell? ⟨gb243, 0, none⟩ = some (.int .i64 a0_0) := b1 BK243 0; have hcz24_1 : wr.cell? ⟨gb243, 1, none⟩ = some (.int .i64 a0_1) := b1 BK243 1; have hcz24_2 : wr.cell? ⟨gb243, 2, none⟩ = some (.int .i64 a0_2) := b1 BK243 2; have hcz24_3 : wr.cell? ⟨gb243, 3, none⟩ = some (.slice A0_3 l0_3.length c0_3) := b1 BK243 3; have hfz24_0 := blk_frozen BK243.out 0; have hfz24_1 := blk_frozen BK243.out 1; have hfz24_2 := blk_frozen BK243.out 2; have hfz24_3 := blk_frozen BK243.out 3; obtain ⟨Ao25, co25, eo25⟩ := Kd.R_slice HO_6.out; subst eo25
    go_wp2_with (first | ((with_reducible refine gate_dst (N := 9) rfl ?_); refine box_event ?hg (N := 9) ?hd (cs := #[.int .i64 0, .int .i64 0, .int .i64 0, .slice none 0 0]) (t := 24) ?hr ?_; (case hd => rfl); (case hg => rfl); (case hr => first | (go_simp; done) | (go_simp; rfl)); intro gb258 hg w26 hbox hb; replace HO_6 := xR HO_6 hb; replace HO_7 := xR HO_7 hb; have BK258 := Aside0.mk (hbox); have GW258 := xG HB hg; have GE258 := xG HB hg; replace HB := xS HB hb; have NB243_258 := xN BK243 hg; have NB258_243 := xM BK243 hg; replace BK243 := xB BK243 hb; have NB244_258 := xN BK244 hg; have NB258_244 := xM BK244 hg; replace BK244 := xB BK244 hb; clear hb hbox hg; have hnb27 := NB258_243.out; have hnc27 := NB243_258.out; have hnb28 := NB258_244.out; have hnc28 := NB244_258.out; have hcz29_0 : w26.cell? ⟨gb258, 0, none⟩ = some (.int .i64 0) := b1 BK258 0; have hcz29_1 : w26.cell? ⟨gb258, 1, none⟩ = some (.int .i64 0) := b1 BK258 1; have hcz29_2 : w26.cell? ⟨gb258, 2, none⟩ = some (.int .i64 0) := b1 BK258 2; have hcz29_3 : w26.cell? ⟨gb258, 3, none⟩ = some (.slice none 0 0) := b1 BK258 3; have hfz29_0 := blk_frozen BK258.out 0; have hfz29_1 := blk_frozen BK258.out 1; have hfz29_2 := blk_frozen BK258.out 2; have hfz29_3 := blk_frozen BK258.out 3))
    go_loopg [10] k1 (fun kq v10 w' => ∃ (x10_2 : Int) (x259002_2 : Int), v10 = .int .i64 x10_2 ∧ Aside0 (spec_l4Keep.l1 kq a1 x6_1 x7_1 x10_2 a0_0 a0_1 a0_2 l0_3 a0_0 (x6_1.length : Int) x259002_2 = some (r1, r2, r3, r4, r5)) ∧ Aside0 (kq ≤ k1) ∧ Aside0 (Kd.R (Kd.int .i64) 3 w' w.heap.size (fun k_ => some k_ ≠ (u7 : Value).ownBlock) (.slice Ao25 x6_1.length co25) x6_1) ∧ Aside0 (Kd.R (Kd.int .i64) 3 w' w.heap.size (fun k_ => some k_ ≠ ((.slice Ao25 x6_1.length co25) : Value).ownBlock) u7 x7_1) ∧ Aside0 (w'.heap[gb243]? = some (.cells #[.int .i64 a0_0, .int .i64 a0_1, .int .i64 a0_2, (.slice A0_3 l0_3.length c0_3)] 24 (0, 0))) ∧ Aside0 (w'.heap[gb244]? = some (.cells #[.int .i64 0, .int .i64 0, .int .i64 0, (.slice none 0 0)] 24 (0, 0))) ∧ Aside0 (w'.heap[gb258]? = some (.cells #[.int .i64 a0_0, .int .i64 (x6_1.length : Int), .int .i64 x259002_2, (.slice none 0 0)] 24 (0, 0))) ∧ Aside0 (Below w.heap.size w w'))
    case atStart => exact ⟨(0), (0), (by first | rfl | (simp; done) | (simp [*]; done) | (rw [Int.tmod_eq_emod_of_nonneg (Int.natCast_nonneg _)]; done)), H', ⟨Nat.le_refl _⟩, ⟨by (with_reducible repeat (first | apply Kd.R_alloc | apply Kd.R_drewN | apply Kd.R_drew)); exact Kd.R_mono (Kd.R_far (p := ⟨gb258, 3, none⟩) (Kd.R_far (p := ⟨gb258, 2, none⟩) (Kd.R_far (p := ⟨gb258, 1, none⟩) (Kd.R_far (p := ⟨gb258, 0, none⟩) (Kd.R_types HO_6.out BK258.out (by decide)) (fun _ hk => hk.2) (.int .i64 a0_0)) (fun _ hk => hk.2) (.int .i64 (x6_1.length : Int))) (fun _ hk => hk.2) (.int .i64 0)) (fun _ hk => hk.2) (.slice none 0 0)) (fun _ hk => hk.1)⟩, ⟨by (with_reducible repeat (first | apply Kd.R_alloc | apply Kd.R_drewN | apply Kd.R_drew)); exact Kd.R_mono (Kd.R_far (p := ⟨gb258, 3, none⟩) (Kd.R_far (p := ⟨gb258, 2, none⟩) (Kd.R_far (p := ⟨gb258, 1, none⟩) (Kd.R_far (p := ⟨gb258, 0, none⟩) (Kd.R_types HO_7.out BK258.out (by decide)) (fun _ hk => hk.2) (.int .i64 a0_0)) (fun _ hk => hk.2) (.int .i64 (x6_1.length : Int))) (fun _ hk => hk.2) (.int .i64 0)) (fun _ hk => hk.2) (.slice none 0 0)) (fun _ hk => hk.1)⟩, ⟨zB BK243.out⟩, ⟨zB BK244.out⟩, ⟨by (with_reducible repeat (first | refine blk_drewN ?_ _ | refine blk_drew ?_ | refine blk_alloc ?_ _)); refine blk_put (cs := #[.int .i64 a0_0, .int .i64 (x6_1.length : Int), .int .i64 0, .slice none 0 0]) ?_ 3 _ rfl; (with_reducible repeat (first | refine blk_drewN ?_ _ | refine blk_drew ?_ | refine blk_alloc ?_ _)); refine blk_put (cs := #[.int .i64 a0_0, .int .i64 (x6_1.length : Int), .int .i64 0, .slice none 0 0]) ?_ 2 _ rfl; (with_reducible repeat (first | refine blk_drewN ?_ _ | refine blk_drew ?_ | refine blk_alloc ?_ _)); refine blk_put (cs := #[.int .i64 a0_0, .int .i64 0, .int .i64 0, .slice none 0 0]) ?_ 1 _ rfl; (with_reducible repeat (first | refine blk_drewN ?_ _ | refine blk_drew ?_ | refine blk_alloc ?_ _)); refine blk_put (cs := #[.int .i64 0, .int .i64 0, .int .i64 0, .slice none 0 0]) ?_ 0 _ rfl; (with_reducible repeat (first | refine blk_drewN ?_ _ | refine blk_drew ?_ | refine blk_alloc ?_ _)); exact BK258.out⟩, ⟨zS HB.out⟩⟩
    case round =>
     clear H'
     try clear c1
     try clear c2
     try clear p2
     try clear p6
     try clear c9
     try clear c9b0
     try clear c10
     try clear c12
     try clear c13
     try clear c14
     try clear c19
     try clear c23
     try clear c27
     try clear c28
     try clear hcz15_0
     try clear hcz15_1
     try clear hcz15_2
     try clear hcz15_3
     try clear hcz20_0
     try clear hcz20_1
     try clear hcz20_2
     try clear hcz20_3
     try clear hcz24_0
     try clear hcz24_1
     try clear hcz24_2
     try clear hcz24_3
     try clear hcz29_0
     try clear hcz29_1
     try clear hcz29_2
     try clear hcz29_3
     try clear hfz15_0
     try clear hfz15_1
     try clear hfz15_2
     try clear hfz15_3
     try clear hfz20_0
     try clear hfz20_1
     try clear hfz20_2
     try clear hfz20_3
     try clear hfz24_0
     try clear hfz24_1
     try clear hfz24_2
     try clear hfz24_3
     try clear hfz29_0
     try clear hfz29_1
     try clear hfz29_2
     try clear hfz29_3
     try clear p2
     obtain ⟨x10_2, x259002_2, rfl, HA, HK2, HO_6, HO_7, BK243, BK244, BK258, HB⟩ := hrel
     cases gk with
     | zero => exact absurd HA.out (by simp [spec_l4Keep.l1])
     | succ k2 =>
      have H := HA.out; clear HA; simp only [spec_l4Keep.l1] at H
      by_cases c30 : x10_2 < a0_1
      ·rw [if_pos c30] at H; have c30b0 : decide (x10_2 < a0_1) = true := decide_eq_true c30; clear c30; replace H := Option.bind_eq_some_iff.mp H; obtain ⟨t259, A310, H⟩ := H; replace H : (if t259 = true then ((spec_l1Has.f a0_2 x10_2).bind fun t260 => (if t260 = true then (if 0 ≤ x10_2 then (if x10_2 < (x7_1.length : Int) then ((spec_l1Bit.f (rd x7_1 x10_2)).bind fun t262 => (spec_l4Keep.l1 k2 a1 x6_1 x7_1 (wrap64 (x10_2 + 1)) a0_0 a0_1 a0_2 l0_3 a0_0 (x6_1.length : Int) (Go.bits .or .i64 x259002_2 t262))) else (none)) else (none)) else (spec_l4Keep.l1 k2 a1 x6_1 x7_1 (wrap64 (x10_2 + 1)) a0_0 a0_1 a0_2 l0_3 a0_0 (x6_1.length : Int) x259002_2))) else (spec_l4Keep.l1 k2 a1 x6_1 x7_1 (wrap64 (x10_2 + 1)) a0_0 a0_1 a0_2 l0_3 a0_0 (x6_1.length : Int) x259002_2)) = some (r1, r2, r3, r4, r5) := H; have A31 := Aside0.mk A310; clear A310
       by_cases c32 : t259 = true
       ·subst c32
        have H1 : ((spec_l1Has.f a0_2 x10_2).bind fun t260 => (if t260 = true then (if 0 ≤ x10_2 then (if x10_2 < (x7_1.length : Int) then ((spec_l1Bit.f (rd x7_1 x10_2)).bind fun t262 => (spec_l4Keep.l1 k2 a1 x6_1 x7_1 (wrap64 (x10_2 + 1)) a0_0 a0_1 a0_2 l0_3 a0_0 (x6_1.length : Int) (Go.bits .or .i64 x259002_2 t262))) else (none)) else (none)) else (spec_l4Keep.l1 k2 a1 x6_1 x7_1 (wrap64 (x10_2 + 1)) a0_0 a0_1 a0_2 l0_3 a0_0 (x6_1.length : Int) x259002_2))) = some (r1, r2, r3, r4, r5) := by rw [if_pos rfl] at H; exact H
        clear H; have H := H1; clear H1; replace H := Option.bind_eq_some_iff.mp H; obtain ⟨t260, A330, H⟩ := H; replace H : (if t260 = true then (if 0 ≤ x10_2 then (if x10_2 < (x7_1.length : Int) then ((spec_l1Bit.f (rd x7_1 x10_2)).bind fun t262 => (spec_l4Keep.l1 k2 a1 x6_1 x7_1 (wrap64 (x10_2 + 1)) a0_0 a0_1 a0_2 l0_3 a0_0 (x6_1.length : Int) (Go.bits .or .i64 x259002_2 t262))) else (none)) else (none)) else (spec_l4Keep.l1 k2 a1 x6_1 x7_1 (wrap64 (x10_2 + 1)) a0_0 a0_1 a0_2 l0_3 a0_0 (x6_1.length : Int) x259002_2)) = some (r1, r2, r3, r4, r5) := H; have A33 := Aside0.mk A330; clear A330
        by_cases c34 : t260 = true
        ·subst c34
         have H1 : (if 0 ≤ x10_2 then (if x10_2 < (x7_1.length : Int) then ((spec_l1Bit.f (rd x7_1 x10_2)).bind fun t262 => (spec_l4Keep.l1 k2 a1 x6_1 x7_1 (wrap64 (x10_2 + 1)) a0_0 a0_1 a0_2 l0_3 a0_0 (x6_1.length : Int) (Go.bits .or .i64 x259002_2 t262))) else (none)) else (none)) = some (r1, r2, r3, r4, r5) := by rw [if_pos rfl] at H; exact H
         clear H; have H := H1; clear H1
         by_cases c35 : 0 ≤ x10_2
         ·rw [if_pos c35] at H; have c35b0 : decide (0 ≤ x10_2) = true := decide_eq_true c35; clear c35
          by_cases c36 : x10_2 < (x7_1.length : Int)
          ·rw [if_pos c36] at H; have c36b0 : decide (x10_2 < (x7_1.length : Int)) = true := decide_eq_true c36; clear c36; replace H := Option.bind_eq_some_iff.mp H; obtain ⟨t262, A370, H⟩ := H; replace H : (spec_l4Keep.l1 k2 a1 x6_1 x7_1 (wrap64 (x10_2 + 1)) a0_0 a0_1 a0_2 l0_3 a0_0 (x6_1.length : Int) (Go.bits .or .i64 x259002_2 t262)) = some (r1, r2, r3, r4, r5) := H; have A37 := Aside0.mk A370; clear A370; have H' := Aside0.mk H; clear H; have hnb38 := NB243_244.out; have hnc38 := NB244_243.out; have hnb39 := NB243_258.out; have hnc39 := NB258_243.out; have hcz40_0 : wr.cell? ⟨gb243, 0, none⟩ = some (.int .i64 a0_0) := b1 BK243 0; have hcz40_1 : wr.cell? ⟨gb243, 1, none⟩ = some (.int .i64 a0_1) := b1 BK243 1; have hcz40_2 : wr.cell? ⟨gb243, 2, none⟩ = some (.int .i64 a0_2) := b1 BK243 2; have hcz40_3 : wr.cell? ⟨gb243, 3, none⟩ = some (.slice A0_3 l0_3.length c0_3) := b1 BK243 3; have hfz40_0 := blk_frozen BK243.out 0; have hfz40_1 := blk_frozen BK243.out 1; have hfz40_2 := blk_frozen BK243.out 2; have hfz40_3 := blk_frozen BK243.out 3
           try go_wp2_with (first | ((with_reducible refine gate_callee (f := 96) rfl ?_); refine goesL_ (some 46) rfl rfl Try.func96 (by kernel_rfl) rfl #[.int .i64 a1, .int .i64 x10_2] rfl (by (try simp only [m3]); first | done | rfl | (simp only [d2]; rfl)) ?_; (with_reducible refine (spec_l1Has.calls a1 x10_2 true _ A31.out).mono ?_); rintro e w' ⟨rfl, ⟨nd, rfl⟩⟩; refine ⟨_, rfl, ?_⟩; (try (rw [drewN_self wr]; generalize hq_ : World.drewN wr _ = wr; have n0_ : Aside0 (Kd.R (Kd.int .i64) 3 wr w.heap.size (fun k_ => some k_ ≠ (u7 : Value).ownBlock) (.slice Ao25 x6_1.length co25) x6_1) := ⟨by rw [← hq_]; exact (zR HO_6.out)⟩; have n1_ : Aside0 (Kd.R (Kd.int .i64) 3 wr w.heap.size (fun k_ => some k_ ≠ (.slice Ao25 x6_1.length co25 : Value).ownBlock) u7 x7_1) := ⟨by rw [← hq_]; exact (zR HO_7.out)⟩; have n2_ : Aside0 (wr.heap[gb243]? = some (.cells #[.int .i64 a0_0, .int .i64 a0_1, .int .i64 a0_2, .slice A0_3 l0_3.length c0_3] 24 (0, 0))) := ⟨by rw [← hq_]; exact (zB BK243.out)⟩; have n3_ : Aside0 (wr.heap[gb244]? = some (.cells #[.int .i64 0, .int .i64 0, .int .i64 0, .slice none 0 0] 24 (0, 0))) := ⟨by rw [← hq_]; exact (zB BK244.out)⟩; have n4_ : Aside0 (wr.heap[gb258]? = some (.cells #[.int .i64 a0_0, .int .i64 (x6_1.length : Int), .int .i64 x259002_2, .slice none 0 0] 24 (0, 0))) := ⟨by rw [← hq_]; exact (zB BK258.out)⟩; have n5_ : Aside0 (Below w.heap.size w wr) := ⟨by rw [← hq_]; exact (zS HB.out)⟩; clear HO_6 HO_7 BK243 BK244 BK258 HB hq_; have HO_6 := n0_; have HO_7 := n1_; have BK243 := n2_; have BK244 := n3_; have BK258 := n4_; have HB := n5_; clear n0_ n1_ n2_ n3_ n4_ n5_; have hcz40_0 : wr.cell? ⟨gb243, 0, none⟩ = some (.int .i64 a0_0) := b1 BK243 0; have hfz40_0 := blk_frozen BK243.out 0; have hcz40_1 : wr.cell? ⟨gb243, 1, none⟩ = some (.int .i64 a0_1) := b1 BK243 1; have hfz40_1 := blk_frozen BK243.out 1; have hcz40_2 : wr.cell? ⟨gb243, 2, none⟩ = some (.int .i64 a0_2) := b1 BK243 2; have hfz40_2 := blk_frozen BK243.out 2; have hcz40_3 : wr.cell? ⟨gb243, 3, none⟩ = some (.slice A0_3 l0_3.length c0_3) := b1 BK243 3; have hfz40_3 := blk_frozen BK243.out 3))) | (go_at_call 96; (with_reducible refine (spec_l1Has.calls a0_2 x10_2 true _ A33.out).mono ?_); rintro e w' ⟨rfl, ⟨nd, rfl⟩⟩; (try (rw [drewN_self wr]; generalize hq_ : World.drewN wr _ = wr; have n0_ : Aside0 (Kd.R (Kd.int .i64) 3 wr w.heap.size (fun k_ => some k_ ≠ (u7 : Value).ownBlock) (.slice Ao25 x6_1.length co25) x6_1) := ⟨by rw [← hq_]; exact (zR HO_6.out)⟩; have n1_ : Aside0 (Kd.R (Kd.int .i64) 3 wr w.heap.size (fun k_ => some k_ ≠ (.slice Ao25 x6_1.length co25 : Value).ownBlock) u7 x7_1) := ⟨by rw [← hq_]; exact (zR HO_7.out)⟩; have n2_ : Aside0 (wr.heap[gb243]? = some (.cells #[.int .i64 a0_0, .int .i64 a0_1, .int .i64 a0_2, .slice A0_3 l0_3.length c0_3] 24 (0, 0))) := ⟨by rw [← hq_]; exact (zB BK243.out)⟩; have n3_ : Aside0 (wr.heap[gb244]? = some (.cells #[.int .i64 0, .int .i64 0, .int .i64 0, .slice none 0 0] 24 (0, 0))) := ⟨by rw [← hq_]; exact (zB BK244.out)⟩; have n4_ : Aside0 (wr.heap[gb258]? = some (.cells #[.int .i64 a0_0, .int .i64 (x6_1.length : Int), .int .i64 x259002_2, .slice none 0 0] 24 (0, 0))) := ⟨by rw [← hq_]; exact (zB BK258.out)⟩; have n5_ : Aside0 (Below w.heap.size w wr) := ⟨by rw [← hq_]; exact (zS HB.out)⟩; clear HO_6 HO_7 BK243 BK244 BK258 HB hq_; have HO_6 := n0_; have HO_7 := n1_; have BK243 := n2_; have BK244 := n3_; have BK258 := n4_; have HB := n5_; clear n0_ n1_ n2_ n3_ n4_ n5_; have hcz40_0 : wr.cell? ⟨gb243, 0, none⟩ = some (.int .i64 a0_0) := b1 BK243 0; have hfz40_0 := blk_frozen BK243.out 0; have hcz40_1 : wr.cell? ⟨gb243, 1, none⟩ = some (.int .i64 a0_1) := b1 BK243 1; have hfz40_1 := blk_frozen BK243.out 1; have hcz40_2 : wr.cell? ⟨gb243, 2, none⟩ = some (.int .i64 a0_2) := b1 BK243 2; have hfz40_2 := blk_frozen BK243.out 2; have hcz40_3 : wr.cell? ⟨gb243, 3, none⟩ = some (.slice A0_3 l0_3.length c0_3) := b1 BK243 3; have hfz40_3 := blk_frozen BK243.out 3))))
           replace HO_6 := Aside0.mk (Kd.R_drew HO_6.out); replace HO_7 := Aside0.mk (Kd.R_drew HO_7.out); replace BK243 := Aside0.mk (blk_drew BK243.out); replace BK244 := Aside0.mk (blk_drew BK244.out); replace BK258 := Aside0.mk (blk_drew BK258.out); replace HB := Aside0.mk (below_drew1 HB.out); obtain ⟨Ao42, co42, eo42⟩ := Kd.R_slice HO_7.out
           (first | subst eo42 | (injection eo42 with f1_ f2_ f3_; have f4_ := f1_.symm; have f5_ := f3_.symm; clear f1_ f2_ f3_; subst f4_; subst f5_))
           have p261 : 0 ≤ (x10_2 : Int) := oD; have q261 : x10_2 < (x7_1.length : Int) := oD; obtain ⟨ad261, e261, hx261_0⟩ := Kd.at_int (Kd.R_reads' HO_7.out).2.2 x10_2 p261 q261
           cases e261
           replace p261 := eq_true p261; replace q261 := eq_true q261; refine start_ (n := 10) (S := fun w' => w'.cell? ⟨gb258, 0, none⟩ = some (.int .i64 a0_0) ∧ w'.cell? ⟨gb258, 1, none⟩ = some (.int .i64 (x6_1.length : Int)) ∧ w'.cell? ⟨gb258, 2, none⟩ = some (.int .i64 x259002_2) ∧ w'.cell? ⟨gb258, 3, none⟩ = some (.slice none 0 0) ∧ w'.cell? (ad261.add (x10_2).toNat) = some (.int .i64 (rd x7_1 x10_2))) (ds := [9]) bl0 (by kernel_rfl) rfl rfl ⟨b1 BK258 0, b1 BK258 1, b1 BK258 2, b1 BK258 3, hx261_0⟩ (fun hHeld => ?_); refine with_tabW spec_l4Keep.tab14 spec_l4Keep.bits14 (fun HT_ HW_ => ?_); generalize wr.drew = w41 at HO_6 HO_7 BK243 BK244 BK258 HB hx261_0 hHeld ⊢
           refine pu 0 (some 53) bl1 HT_ ?_ rfl rfl (.inl ⟨by rfl, ?_⟩) ?_ ?_ ?_; rotate_left; (intro w'; go_simp; with_reducible rfl); rotate_left; (simp only [Act.put, q5]; rfl)
           refine pu 2 (some 55) bl2 HT_ ?_ rfl rfl (.inl ⟨by rfl, ?_⟩) ?_ ?_ ?_; rotate_left; (intro w'; go_simp; with_reducible rfl); rotate_left; (simp only [Act.put, q5]; rfl)
           refine pu 3 (some 56) bl3 HT_ ?_ rfl rfl (.inl ⟨by rfl, ?_⟩) ?_ ?_ ?_; rotate_left; (intro w'; go_simp; with_reducible rfl); rotate_left; (simp only [Act.put, q5]; rfl)
           refine pu 4 (some 57) bl4 HT_ ?_ rfl rfl (.inl ⟨by rfl, ?_⟩) ?_ ?_ ?_; rotate_left; (intro w'; go_simp; with_reducible rfl); rotate_left; (simp only [Act.put, q5]; rfl)
           refine take_ (i := 1) (N := some 54) (v := ?_) (a' := ?_) bl5 rfl rfl (take_ofW HT_.out HW_.out (by kernel_rfl)) (fun _ _ _ h => h) (Or.inl ⟨by rfl, ?_⟩) hHeld ?_ ?_; rotate_left
           ·rintro w' ⟨s0, s1, s2, s3, s4⟩; go_simp; with_reducible rfl
           rotate_left
           ·simp only [Act.put, q5]; rfl
           refine take_ (i := 5) (N := some 58) (v := ?_) (a' := ?_) bl6 rfl rfl (take_ofW HT_.out HW_.out (by kernel_rfl)) (fun _ _ _ h => h) (Or.inl ⟨by rfl, ?_⟩) hHeld ?_ ?_; rotate_left
           ·rintro w' ⟨s0, s1, s2, s3, s4⟩; go_simp; with_reducible rfl
           rotate_left
           ·simp only [Act.put, q5]; rfl
           refine one_ (i := 6) (N := some 59) bl7 rfl rfl (one_of HT_.out (by kernel_rfl)) (by decide) (fun K hK => ?_); refine goes_ Try.func109 (by kernel_rfl) rfl #[.int .i64 (rd x7_1 x10_2)] (by rfl) rfl rfl (by (try simp only [m3]); first | done | rfl | (simp only [d2]; rfl)) ?_
           with_reducible refine (spec_l1Bit.calls (rd x7_1 x10_2) t262 _ A37.out).mono ?_
           rintro e w' ⟨rfl, ⟨nd, rfl⟩⟩; refine ⟨_, rfl, ?_⟩; refine hK.out _ _ ⟨b1 BK258 0, b1 BK258 1, b1 BK258 2, b1 BK258 3, hHeld.2.2.2.2⟩ (fun hHeld => ?_); clear hK K; refine norm_ (a' := ?_) ?_ ?_; rotate_left
           ·show Act.put _ (some 59) _ = _; simp only [Act.put, q5]; rfl
           refine pu 7 (some 60) bl8 HT_ ?_ rfl rfl (.inl ⟨by rfl, ?_⟩) ?_ ?_ ?_; rotate_left; (intro w'; go_simp; with_reducible rfl); rotate_left; (simp only [Act.put, q5]; rfl)
           refine pu 8 (some 61) bl9 HT_ ?_ rfl rfl (.inl ⟨by rfl, ?_⟩) ?_ ?_ ?_; rotate_left; (intro w'; go_simp; with_reducible rfl); rotate_left; (simp only [Act.put, q5]; rfl)
           refine last_ (i := 9) (N := none) bl10 rfl rfl (one_of HT_.out (by kernel_rfl)) (by decide) (fun K hK => ?_); have hs43 : w41.cell? ⟨gb258, 2, none⟩ = some (.int .i64 x259002_2) := b1 BK258 2; have hfs43 := blk_frozen BK258.out 2; have hns43_0 := NB243_258.out; have hns43_1 := NB244_258.out; have hms43_0 := NB258_243.out; have hms43_1 := NB258_244.out; refine skip_ (w1 := ?_) (by rfl) rfl ?_ ?_; rotate_left
           ·go_simp; rfl
           refine hK.out _ _ ?_; clear hK K; refine done_ (done_of HT_.out (by kernel_rfl)) ?_
           try go_wp2
           go_roundg k2
           case measure => have := HK1.out; have := HK2.out; omega
           case rel => exact ⟨(wrap64 (x10_2 + 1)), (Go.bits .or .i64 x259002_2 t262), (by first | rfl | (simp; done) | (simp [*]; done) | (rw [Int.tmod_eq_emod_of_nonneg (Int.natCast_nonneg _)]; done)), H', ⟨by have := HK1.out; have := HK2.out; omega⟩, ⟨by (with_reducible repeat (first | apply Kd.R_alloc | apply Kd.R_drewN | apply Kd.R_drew)); exact Kd.R_mono (Kd.R_far (p := ⟨gb258, 2, none⟩) (Kd.R_types HO_6.out BK258.out (by decide)) (fun _ hk => hk.2) (.int .i64 (Go.bits .or .i64 x259002_2 t262))) (fun _ hk => hk.1)⟩, ⟨by (with_reducible repeat (first | apply Kd.R_alloc | apply Kd.R_drewN | apply Kd.R_drew)); exact Kd.R_mono (Kd.R_far (p := ⟨gb258, 2, none⟩) (Kd.R_types HO_7.out BK258.out (by decide)) (fun _ hk => hk.2) (.int .i64 (Go.bits .or .i64 x259002_2 t262))) (fun _ hk => hk.1)⟩, ⟨zB BK243.out⟩, ⟨zB BK244.out⟩, ⟨by (with_reducible repeat (first | refine blk_drewN ?_ _ | refine blk_drew ?_ | refine blk_alloc ?_ _)); refine blk_put (cs := #[.int .i64 a0_0, .int .i64 (x6_1.length : Int), .int .i64 x259002_2, .slice none 0 0]) ?_ 2 _ rfl; (with_reducible repeat (first | refine blk_drewN ?_ _ | refine blk_drew ?_ | refine blk_alloc ?_ _)); exact BK258.out⟩, ⟨zS HB.out⟩⟩
          ·rw [if_neg c36] at H; exact absurd H (by simp)
         ·rw [if_neg c35] at H; exact absurd H (by simp)
        ·replace c34 := Bool.eq_false_iff.mpr c34; subst c34
         have H1 : (spec_l4Keep.l1 k2 a1 x6_1 x7_1 (wrap64 (x10_2 + 1)) a0_0 a0_1 a0_2 l0_3 a0_0 (x6_1.length : Int) x259002_2) = some (r1, r2, r3, r4, r5) := by rw [if_neg (show ¬ (false = true) by decide)] at H; exact H
         clear H; have H := H1; clear H1; have H' := Aside0.mk H; clear H; have hnb44 := NB243_244.out; have hnc44 := NB244_243.out; have hnb45 := NB243_258.out; have hnc45 := NB258_243.out; have hcz46_0 : wr.cell? ⟨gb243, 0, none⟩ = some (.int .i64 a0_0) := b1 BK243 0; have hcz46_1 : wr.cell? ⟨gb243, 1, none⟩ = some (.int .i64 a0_1) := b1 BK243 1; have hcz46_2 : wr.cell? ⟨gb243, 2, none⟩ = some (.int .i64 a0_2) := b1 BK243 2; have hcz46_3 : wr.cell? ⟨gb243, 3, none⟩ = some (.slice A0_3 l0_3.length c0_3) := b1 BK243 3; have hfz46_0 := blk_frozen BK243.out 0; have hfz46_1 := blk_frozen BK243.out 1; have hfz46_2 := blk_frozen BK243.out 2; have hfz46_3 := blk_frozen BK243.out 3
         go_wp2_with (first | ((with_reducible refine gate_callee (f := 96) rfl ?_); refine goesL_ (some 46) rfl rfl Try.func96 (by kernel_rfl) rfl #[.int .i64 a1, .int .i64 x10_2] rfl (by (try simp only [m3]); first | done | rfl | (simp only [d2]; rfl)) ?_; (with_reducible refine (spec_l1Has.calls a1 x10_2 true _ A31.out).mono ?_); rintro e w' ⟨rfl, ⟨nd, rfl⟩⟩; refine ⟨_, rfl, ?_⟩) | (go_at_call 96; (with_reducible refine (spec_l1Has.calls a0_2 x10_2 false _ A33.out).mono ?_); rintro e w' ⟨rfl, ⟨nd, rfl⟩⟩))
         go_roundg k2
         case measure => have := HK1.out; have := HK2.out; omega
         case rel => exact ⟨(wrap64 (x10_2 + 1)), (x259002_2), (by first | rfl | (simp; done) | (simp [*]; done) | (rw [Int.tmod_eq_emod_of_nonneg (Int.natCast_nonneg _)]; done)), H', ⟨by have := HK1.out; have := HK2.out; omega⟩, ⟨zR HO_6.out⟩, ⟨zR HO_7.out⟩, ⟨zB BK243.out⟩, ⟨zB BK244.out⟩, ⟨zB BK258.out⟩, ⟨zS HB.out⟩⟩
       ·replace c32 := Bool.eq_false_iff.mpr c32; subst c32
        have H1 : (spec_l4Keep.l1 k2 a1 x6_1 x7_1 (wrap64 (x10_2 + 1)) a0_0 a0_1 a0_2 l0_3 a0_0 (x6_1.length : Int) x259002_2) = some (r1, r2, r3, r4, r5) := by rw [if_neg (show ¬ (false = true) by decide)] at H; exact H
        clear H; have H := H1; clear H1; have H' := Aside0.mk H; clear H; have hnb47 := NB243_244.out; have hnc47 := NB244_243.out; have hnb48 := NB243_258.out; have hnc48 := NB258_243.out; have hcz49_0 : wr.cell? ⟨gb243, 0, none⟩ = some (.int .i64 a0_0) := b1 BK243 0; have hcz49_1 : wr.cell? ⟨gb243, 1, none⟩ = some (.int .i64 a0_1) := b1 BK243 1; have hcz49_2 : wr.cell? ⟨gb243, 2, none⟩ = some (.int .i64 a0_2) := b1 BK243 2; have hcz49_3 : wr.cell? ⟨gb243, 3, none⟩ = some (.slice A0_3 l0_3.length c0_3) := b1 BK243 3; have hfz49_0 := blk_frozen BK243.out 0; have hfz49_1 := blk_frozen BK243.out 1; have hfz49_2 := blk_frozen BK243.out 2; have hfz49_3 := blk_frozen BK243.out 3
        go_wp2_with (first | ((with_reducible refine gate_callee (f := 96) rfl ?_); refine goesL_ (some 46) rfl rfl Try.func96 (by kernel_rfl) rfl #[.int .i64 a1, .int .i64 x10_2] rfl (by (try simp only [m3]); first | done | rfl | (simp only [d2]; rfl)) ?_; (with_reducible refine (spec_l1Has.calls a1 x10_2 false _ A31.out).mono ?_); rintro e w' ⟨rfl, ⟨nd, rfl⟩⟩; refine ⟨_, rfl, ?_⟩))
        go_roundg k2
        case measure => have := HK1.out; have := HK2.out; omega
        case rel => exact ⟨(wrap64 (x10_2 + 1)), (x259002_2), (by first | rfl | (simp; done) | (simp [*]; done) | (rw [Int.tmod_eq_emod_of_nonneg (Int.natCast_nonneg _)]; done)), H', ⟨by have := HK1.out; have := HK2.out; omega⟩, ⟨zR HO_6.out⟩, ⟨zR HO_7.out⟩, ⟨zB BK243.out⟩, ⟨zB BK244.out⟩, ⟨zB BK258.out⟩, ⟨zS HB.out⟩⟩
      ·rw [if_neg c30] at H; have c30b0 : decide (x10_2 < a0_1) = false := decide_eq_false c30; clear c30; have H' := Aside0.mk H; clear H; have hnb50 := NB243_244.out; have hnc50 := NB244_243.out; have hnb51 := NB243_258.out; have hnc51 := NB258_243.out; have hcz52_0 : wr.cell? ⟨gb243, 0, none⟩ = some (.int .i64 a0_0) := b1 BK243 0; have hcz52_1 : wr.cell? ⟨gb243, 1, none⟩ = some (.int .i64 a0_1) := b1 BK243 1; have hcz52_2 : wr.cell? ⟨gb243, 2, none⟩ = some (.int .i64 a0_2) := b1 BK243 2; have hcz52_3 : wr.cell? ⟨gb243, 3, none⟩ = some (.slice A0_3 l0_3.length c0_3) := b1 BK243 3; have hfz52_0 := blk_frozen BK243.out 0; have hfz52_1 := blk_frozen BK243.out 1; have hfz52_2 := blk_frozen BK243.out 2; have hfz52_3 := blk_frozen BK243.out 3
       go_wp2
       go_loopg [11] k2 (fun kq v11 w' => ∃ (x11_3 : Int) (x259003_3 : List (S68)) (u259003 : Value), v11 = .int .i64 x11_3 ∧ Aside0 (spec_l4Keep.l2 kq a1 x6_1 x7_1 x11_3 a0_0 a0_1 a0_2 l0_3 a0_0 (x6_1.length : Int) x259002_2 x259003_3 = some (r1, r2, r3, r4, r5)) ∧ Aside0 (kq ≤ k2) ∧ Aside0 (Kd.R (Kd.int .i64) 3 w' w.heap.size (fun k_ => some k_ ≠ (u7 : Value).ownBlock) (.slice Ao25 x6_1.length co25) x6_1) ∧ Aside0 (Kd.R (Kd.int .i64) 3 w' w.heap.size (fun k_ => some k_ ≠ ((.slice Ao25 x6_1.length co25) : Value).ownBlock) u7 x7_1) ∧ Aside0 (Kd.R k68 68 w' w.heap.size (fun _ => True) u259003 x259003_3) ∧ Aside0 (w'.heap[gb243]? = some (.cells #[.int .i64 a0_0, .int .i64 a0_1, .int .i64 a0_2, (.slice A0_3 l0_3.length c0_3)] 24 (0, 0))) ∧ Aside0 (w'.heap[gb244]? = some (.cells #[.int .i64 0, .int .i64 0, .int .i64 0, (.slice none 0 0)] 24 (0, 0))) ∧ Aside0 (w'.heap[gb258]? = some (.cells #[.int .i64 a0_0, .int .i64 (x6_1.length : Int), .int .i64 x259002_2, u259003] 24 (0, 0))) ∧ Aside0 (Below w.heap.size w w'))
       case atStart => exact ⟨(0), (([] : List (S68))), (.slice none 0 0), (by first | rfl | (simp; done) | (simp [*]; done) | (rw [Int.tmod_eq_emod_of_nonneg (Int.natCast_nonneg _)]; done)), H', ⟨Nat.le_refl _⟩, ⟨zR HO_6.out⟩, ⟨zR HO_7.out⟩, ⟨by first | exact Kd.R_nil _ _ _ _ _ | exact Kd.N_nil _ _ _ _ _ | exact Kd.V_nil _ _ _ _ _ | exact Kd.Q_nil _ _ _ _ _ | exact Kd.S_nil _ _ _ _ _⟩, ⟨zB BK243.out⟩, ⟨zB BK244.out⟩, ⟨zB BK258.out⟩, ⟨zS HB.out⟩⟩
       case round =>
        clear H'
        try clear c1
        try clear c2
        try clear p2
        try clear q2
        try clear hx2
        try clear c3
        try clear c4
        try clear c5
        try clear p6
        try clear c9
        try clear c9b0
        try clear c10
        try clear c12
        try clear c13
        try clear c14
        try clear c19
        try clear c23
        try clear p26
        try clear q26
        try clear hx26
        try clear c27
        try clear c28
        try clear c30
        try clear c30b0
        try clear c32
        try clear c34
        try clear c35
        try clear c35b0
        try clear c36
        try clear c36b0
        try clear c38
        try clear c39
        try clear c44
        try clear c45
        try clear c47
        try clear c48
        try clear c50
        try clear c51
        try clear hcz15_0
        try clear hcz15_1
        try clear hcz15_2
        try clear hcz15_3
        try clear hcz20_0
        try clear hcz20_1
        try clear hcz20_2
        try clear hcz20_3
        try clear hcz24_0
        try clear hcz24_1
        try clear hcz24_2
        try clear hcz24_3
        try clear hcz29_0
        try clear hcz29_1
        try clear hcz29_2
        try clear hcz29_3
        try clear hcz40_0
        try clear hcz40_1
        try clear hcz40_2
        try clear hcz40_3
        try clear hcz46_0
        try clear hcz46_1
        try clear hcz46_2
        try clear hcz46_3
        try clear hcz49_0
        try clear hcz49_1
        try clear hcz49_2
        try clear hcz49_3
        try clear hcz52_0
        try clear hcz52_1
        try clear hcz52_2
        try clear hcz52_3
        try clear hfz15_0
        try clear hfz15_1
        try clear hfz15_2
        try clear hfz15_3
        try clear hfz20_0
        try clear hfz20_1
        try clear hfz20_2
        try clear hfz20_3
        try clear hfz24_0
        try clear hfz24_1
        try clear hfz24_2
        try clear hfz24_3
        try clear hfz29_0
        try clear hfz29_1
        try clear hfz29_2
        try clear hfz29_3
        try clear hfz40_0
        try clear hfz40_1
        try clear hfz40_2
        try clear hfz40_3
        try clear hfz46_0
        try clear hfz46_1
        try clear hfz46_2
        try clear hfz46_3
        try clear hfz49_0
        try clear hfz49_1
        try clear hfz49_2
        try clear hfz49_3
        try clear hfz52_0
        try clear hfz52_1
        try clear hfz52_2
        try clear hfz52_3
        try clear hx261_0
        try clear p2
        try clear p261
        try clear p6
        try clear q261
        obtain ⟨x11_3, x259003_3, u259003, rfl, HA, HK3, HO_6, HO_7, HO_259003, BK243, BK244, BK258, HB⟩ := hrel
        cases gk with
        | zero => exact absurd HA.out (by simp [spec_l4Keep.l2])
        | succ k3 =>
         have H := HA.out; clear HA; simp only [spec_l4Keep.l2] at H
         by_cases c53 : x11_3 < (l0_3.length : Int)
         ·rw [if_pos c53] at H; have c53b0 : decide (x11_3 < (l0_3.length : Int)) = true := decide_eq_true c53; clear c53
          by_cases c54 : 0 ≤ x11_3
          ·rw [if_pos c54] at H; have c54b0 : decide (0 ≤ x11_3) = true := decide_eq_true c54; clear c54; replace H := Option.bind_eq_some_iff.mp H; obtain ⟨t265, A550, H⟩ := H; replace H : (if t265 = true then ((spec_l1Has.f a1 ((rd_T68 l0_3 x11_3).f2)).bind fun t266 => (if t266 = true then (if 0 ≤ ((rd_T68 l0_3 x11_3).f0) then (if ((rd_T68 l0_3 x11_3).f0) < (x7_1.length : Int) then (if 0 ≤ ((rd_T68 l0_3 x11_3).f2) then (if ((rd_T68 l0_3 x11_3).f2) < (x7_1.length : Int) then (if x259003_3.length < 4398046511104 then (spec_l4Keep.l2 k3 a1 x6_1 x7_1 (wrap64 (x11_3 + 1)) a0_0 a0_1 a0_2 l0_3 a0_0 (x6_1.length : Int) x259002_2 (x259003_3 ++ [(⟨rd x7_1 ((rd_T68 l0_3 x11_3).f0), (rd_T68 l0_3 x11_3).f1, rd x7_1 ((rd_T68 l0_3 x11_3).f2), (rd_T68 l0_3 x11_3).f3⟩ : S68)])) else (none)) else (none)) else (none)) else (none)) else (none)) else (spec_l4Keep.l2 k3 a1 x6_1 x7_1 (wrap64 (x11_3 + 1)) a0_0 a0_1 a0_2 l0_3 a0_0 (x6_1.length : Int) x259002_2 x259003_3))) else (spec_l4Keep.l2 k3 a1 x6_1 x7_1 (wrap64 (x11_3 + 1)) a0_0 a0_1 a0_2 l0_3 a0_0 (x6_1.length : Int) x259002_2 x259003_3)) = some (r1, r2, r3, r4, r5) := H; have A55 := Aside0.mk A550; clear A550
           by_cases c56 : t265 = true
           ·subst c56
            have H1 : ((spec_l1Has.f a1 ((rd_T68 l0_3 x11_3).f2)).bind fun t266 => (if t266 = true then (if 0 ≤ ((rd_T68 l0_3 x11_3).f0) then (if ((rd_T68 l0_3 x11_3).f0) < (x7_1.length : Int) then (if 0 ≤ ((rd_T68 l0_3 x11_3).f2) then (if ((rd_T68 l0_3 x11_3).f2) < (x7_1.length : Int) then (if x259003_3.length < 4398046511104 then (spec_l4Keep.l2 k3 a1 x6_1 x7_1 (wrap64 (x11_3 + 1)) a0_0 a0_1 a0_2 l0_3 a0_0 (x6_1.length : Int) x259002_2 (x259003_3 ++ [(⟨rd x7_1 ((rd_T68 l0_3 x11_3).f0), (rd_T68 l0_3 x11_3).f1, rd x7_1 ((rd_T68 l0_3 x11_3).f2), (rd_T68 l0_3 x11_3).f3⟩ : S68)])) else (none)) else (none)) else (none)) else (none)) else (none)) else (spec_l4Keep.l2 k3 a1 x6_1 x7_1 (wrap64 (x11_3 + 1)) a0_0 a0_1 a0_2 l0_3 a0_0 (x6_1.length : Int) x259002_2 x259003_3))) = some (r1, r2, r3, r4, r5) := by rw [if_pos rfl] at H; exact H
            clear H; have H := H1; clear H1; replace H := Option.bind_eq_some_iff.mp H; obtain ⟨t266, A570, H⟩ := H; replace H : (if t266 = true then (if 0 ≤ ((rd_T68 l0_3 x11_3).f0) then (if ((rd_T68 l0_3 x11_3).f0) < (x7_1.length : Int) then (if 0 ≤ ((rd_T68 l0_3 x11_3).f2) then (if ((rd_T68 l0_3 x11_3).f2) < (x7_1.length : Int) then (if x259003_3.length < 4398046511104 then (spec_l4Keep.l2 k3 a1 x6_1 x7_1 (wrap64 (x11_3 + 1)) a0_0 a0_1 a0_2 l0_3 a0_0 (x6_1.length : Int) x259002_2 (x259003_3 ++ [(⟨rd x7_1 ((rd_T68 l0_3 x11_3).f0), (rd_T68 l0_3 x11_3).f1, rd x7_1 ((rd_T68 l0_3 x11_3).f2), (rd_T68 l0_3 x11_3).f3⟩ : S68)])) else (none)) else (none)) else (none)) else (none)) else (none)) else (spec_l4Keep.l2 k3 a1 x6_1 x7_1 (wrap64 (x11_3 + 1)) a0_0 a0_1 a0_2 l0_3 a0_0 (x6_1.length : Int) x259002_2 x259003_3)) = some (r1, r2, r3, r4, r5) := H; have A57 := Aside0.mk A570; clear A570
            by_cases c58 : t266 = true
            ·subst c58
             have H1 : (if 0 ≤ ((rd_T68 l0_3 x11_3).f0) then (if ((rd_T68 l0_3 x11_3).f0) < (x7_1.length : Int) then (if 0 ≤ ((rd_T68 l0_3 x11_3).f2) then (if ((rd_T68 l0_3 x11_3).f2) < (x7_1.length : Int) then (if x259003_3.length < 4398046511104 then (spec_l4Keep.l2 k3 a1 x6_1 x7_1 (wrap64 (x11_3 + 1)) a0_0 a0_1 a0_2 l0_3 a0_0 (x6_1.length : Int) x259002_2 (x259003_3 ++ [(⟨rd x7_1 ((rd_T68 l0_3 x11_3).f0), (rd_T68 l0_3 x11_3).f1, rd x7_1 ((rd_T68 l0_3 x11_3).f2), (rd_T68 l0_3 x11_3).f3⟩ : S68)])) else (none)) else (none)) else (none)) else (none)) else (none)) = some (r1, r2, r3, r4, r5) := by rw [if_pos rfl] at H; exact H
             clear H; have H := H1; clear H1
             by_cases c59 : 0 ≤ ((rd_T68 l0_3 x11_3).f0)
             ·rw [if_pos c59] at H; have c59b0 : decide (0 ≤ ((rd_T68 l0_3 x11_3).f0)) = true := decide_eq_true c59; clear c59
              by_cases c60 : ((rd_T68 l0_3 x11_3).f0) < (x7_1.length : Int)
              ·rw [if_pos c60] at H; have c60b0 : decide (((rd_T68 l0_3 x11_3).f0) < (x7_1.length : Int)) = true := decide_eq_true c60; clear c60
               by_cases c61 : 0 ≤ ((rd_T68 l0_3 x11_3).f2)
               ·rw [if_pos c61] at H; have c61b0 : decide (0 ≤ ((rd_T68 l0_3 x11_3).f2)) = true := decide_eq_true c61; clear c61
                by_cases c62 : ((rd_T68 l0_3 x11_3).f2) < (x7_1.length : Int)
                ·rw [if_pos c62] at H; have c62b0 : decide (((rd_T68 l0_3 x11_3).f2) < (x7_1.length : Int)) = true := decide_eq_true c62; clear c62
                 by_cases c63 : x259003_3.length < 4398046511104
                 ·rw [if_pos c63] at H; have LMc63 := Aside0.mk c63; clear c63; obtain ⟨y269, hy269⟩ : ∃ y_ : List (S68), y_ = (x259003_3 ++ [(⟨rd x7_1 ((rd_T68 l0_3 x11_3).f0), (rd_T68 l0_3 x11_3).f1, rd x7_1 ((rd_T68 l0_3 x11_3).f2), (rd_T68 l0_3 x11_3).f3⟩ : S68)]) := ⟨_, rfl⟩
                  replace H : (spec_l4Keep.l2 k3 a1 x6_1 x7_1 (wrap64 (x11_3 + 1)) a0_0 a0_1 a0_2 l0_3 a0_0 (x6_1.length : Int) x259002_2 y269) = some (r1, r2, r3, r4, r5) := by first | (rw [hy269]; with_reducible exact H) | (have H2_ := (Option.bind_some _ _).symm.trans H; rw [hy269]; with_reducible exact H2_) | (have H2_ := (Option.bind_some _ _).symm.trans H; with_reducible exact H2_) | with_reducible exact H | (rw [hy269]; exact H) | exact H
                  have Ny269 := Aside0.mk hy269; clear hy269; have H' := Aside0.mk H; clear H; have hnb64 := NB243_244.out; have hnc64 := NB244_243.out; have hnb65 := NB243_258.out; have hnc65 := NB258_243.out; have hcz66_0 : wr.cell? ⟨gb243, 0, none⟩ = some (.int .i64 a0_0) := b1 BK243 0; have hcz66_1 : wr.cell? ⟨gb243, 1, none⟩ = some (.int .i64 a0_1) := b1 BK243 1; have hcz66_2 : wr.cell? ⟨gb243, 2, none⟩ = some (.int .i64 a0_2) := b1 BK243 2; have hcz66_3 : wr.cell? ⟨gb243, 3, none⟩ = some (.slice A0_3 l0_3.length c0_3) := b1 BK243 3; have hfz66_0 := blk_frozen BK243.out 0; have hfz66_1 := blk_frozen BK243.out 1; have hfz66_2 := blk_frozen BK243.out 2; have hfz66_3 := blk_frozen BK243.out 3; have p263 : 0 ≤ (x11_3 : Int) := oD; have q263 : x11_3 < (l0_3.length : Int) := oD; obtain ⟨ad263, e263, hx263_0, hx263_1, hx263_2, hx263_3⟩ := at_T68 HR0_3.out x11_3 p263 q263
                  cases e263
                  replace hx263_0 := cT HB hx263_0; replace hx263_1 := cT HB hx263_1; replace hx263_2 := cT HB hx263_2; replace hx263_3 := cT HB hx263_3; replace p263 := eq_true p263; replace q263 := eq_true q263
                  try go_wp2_with (first | ((with_reducible refine gate_dst (N := 12) rfl ?_); refine box_event ?hg (N := 12) ?hd (cs := #[.int .i64 0, .int .i64 0, .int .i64 0, .bool false]) (t := 68) ?hr ?_; (case hd => rfl); (case hg => rfl); (case hr => first | (go_simp; done) | (go_simp; rfl)); intro gb264 hg w67 hbox hb; replace HO_6 := xR HO_6 hb; replace HO_7 := xR HO_7 hb; replace HO_259003 := Aside0.mk (Kd.R_below (Kd.R_elderB (zR HO_259003.out) gb264 (Nat.le_of_eq hg.symm)) hb); have BK264 := Aside0.mk (hbox); have GW264 := xG HB hg; have GE264 := xG HB hg; replace HB := xS HB hb; have NB243_264 := xN BK243 hg; have NB264_243 := xM BK243 hg; replace BK243 := xB BK243 hb; have NB244_264 := xN BK244 hg; have NB264_244 := xM BK244 hg; replace BK244 := xB BK244 hb; have NB258_264 := xN BK258 hg; have NB264_258 := xM BK258 hg; replace BK258 := xB BK258 hb; clear hb hbox hg; have hnb68 := NB264_243.out; have hnc68 := NB243_264.out; have hnb69 := NB264_244.out; have hnc69 := NB244_264.out; have hnb70 := NB264_258.out; have hnc70 := NB258_264.out; have hcz71_0 : w67.cell? ⟨gb264, 0, none⟩ = some (.int .i64 0) := b1 BK264 0; have hcz71_1 : w67.cell? ⟨gb264, 1, none⟩ = some (.int .i64 0) := b1 BK264 1; have hcz71_2 : w67.cell? ⟨gb264, 2, none⟩ = some (.int .i64 0) := b1 BK264 2; have hcz71_3 : w67.cell? ⟨gb264, 3, none⟩ = some (.bool false) := b1 BK264 3; have hfz71_0 := blk_frozen BK264.out 0; have hfz71_1 := blk_frozen BK264.out 1; have hfz71_2 := blk_frozen BK264.out 2; have hfz71_3 := blk_frozen BK264.out 3) | ((with_reducible refine gate_callee (f := 96) rfl ?_); refine goesL_ (some 77) rfl rfl Try.func96 (by kernel_rfl) rfl #[.int .i64 a1, .int .i64 ((rd_T68 l0_3 x11_3).f0)] rfl (by (try simp only [m3]); first | done | rfl | (simp only [d2]; rfl)) ?_; (with_reducible refine (spec_l1Has.calls a1 ((rd_T68 l0_3 x11_3).f0) true _ A55.out).mono ?_); rintro e w' ⟨rfl, ⟨nd, rfl⟩⟩; refine ⟨_, rfl, ?_⟩) | (go_at_call 96; (with_reducible refine (spec_l1Has.calls a1 ((rd_T68 l0_3 x11_3).f2) true _ A57.out).mono ?_); rintro e w' ⟨rfl, ⟨nd, rfl⟩⟩))
                  have n0_ : Aside0 (Kd.R (Kd.int .i64) 3 ((((w67.setCell ⟨gb264, 0, none⟩ (.int .i64 ((rd_T68 l0_3 x11_3).f0))).setCell ⟨gb264, 1, none⟩ (.int .i64 ((rd_T68 l0_3 x11_3).f1))).setCell ⟨gb264, 2, none⟩ (.int .i64 ((rd_T68 l0_3 x11_3).f2))).setCell ⟨gb264, 3, none⟩ (.bool ((rd_T68 l0_3 x11_3).f3))) w.heap.size (fun k_ => some k_ ≠ (u7 : Value).ownBlock) (.slice Ao25 x6_1.length co25) x6_1) := ⟨by (with_reducible repeat (first | apply Kd.R_alloc | apply Kd.R_drewN | apply Kd.R_drew)); exact Kd.R_mono (Kd.R_far (p := ⟨gb264, 3, none⟩) (Kd.R_far (p := ⟨gb264, 2, none⟩) (Kd.R_far (p := ⟨gb264, 1, none⟩) (Kd.R_far (p := ⟨gb264, 0, none⟩) (Kd.R_types HO_6.out BK264.out (by decide)) (fun _ hk => hk.2) (.int .i64 ((rd_T68 l0_3 x11_3).f0))) (fun _ hk => hk.2) (.int .i64 ((rd_T68 l0_3 x11_3).f1))) (fun _ hk => hk.2) (.int .i64 ((rd_T68 l0_3 x11_3).f2))) (fun _ hk => hk.2) (.bool ((rd_T68 l0_3 x11_3).f3))) (fun _ hk => hk.1)⟩; have n1_ : Aside0 (Kd.R (Kd.int .i64) 3 ((((w67.setCell ⟨gb264, 0, none⟩ (.int .i64 ((rd_T68 l0_3 x11_3).f0))).setCell ⟨gb264, 1, none⟩ (.int .i64 ((rd_T68 l0_3 x11_3).f1))).setCell ⟨gb264, 2, none⟩ (.int .i64 ((rd_T68 l0_3 x11_3).f2))).setCell ⟨gb264, 3, none⟩ (.bool ((rd_T68 l0_3 x11_3).f3))) w.heap.size (fun k_ => some k_ ≠ (.slice Ao25 x6_1.length co25 : Value).ownBlock) u7 x7_1) := ⟨by (with_reducible repeat (first | apply Kd.R_alloc | apply Kd.R_drewN | apply Kd.R_drew)); exact Kd.R_mono (Kd.R_far (p := ⟨gb264, 3, none⟩) (Kd.R_far (p := ⟨gb264, 2, none⟩) (Kd.R_far (p := ⟨gb264, 1, none⟩) (Kd.R_far (p := ⟨gb264, 0, none⟩) (Kd.R_types HO_7.out BK264.out (by decide)) (fun _ hk => hk.2) (.int .i64 ((rd_T68 l0_3 x11_3).f0))) (fun _ hk => hk.2) (.int .i64 ((rd_T68 l0_3 x11_3).f1))) (fun _ hk => hk.2) (.int .i64 ((rd_T68 l0_3 x11_3).f2))) (fun _ hk => hk.2) (.bool ((rd_T68 l0_3 x11_3).f3))) (fun _ hk => hk.1)⟩; have n2_ : Aside0 (Kd.R k68 68 ((((w67.setCell ⟨gb264, 0, none⟩ (.int .i64 ((rd_T68 l0_3 x11_3).f0))).setCell ⟨gb264, 1, none⟩ (.int .i64 ((rd_T68 l0_3 x11_3).f1))).setCell ⟨gb264, 2, none⟩ (.int .i64 ((rd_T68 l0_3 x11_3).f2))).setCell ⟨gb264, 3, none⟩ (.bool ((rd_T68 l0_3 x11_3).f3))) w.heap.size (fun k_ => k_ ≠ gb264) u259003 x259003_3) := ⟨by (with_reducible repeat (first | apply Kd.R_alloc | apply Kd.R_drewN | apply Kd.R_drew)); exact Kd.R_mono (Kd.R_far (p := ⟨gb264, 3, none⟩) (Kd.R_far (p := ⟨gb264, 2, none⟩) (Kd.R_far (p := ⟨gb264, 1, none⟩) (Kd.R_far (p := ⟨gb264, 0, none⟩) (Kd.R_mono HO_259003.out (fun k_ hk => (⟨hk, hk.2⟩ : _ ∧ k_ ≠ gb264))) (fun _ hk => hk.2) (.int .i64 ((rd_T68 l0_3 x11_3).f0))) (fun _ hk => hk.2) (.int .i64 ((rd_T68 l0_3 x11_3).f1))) (fun _ hk => hk.2) (.int .i64 ((rd_T68 l0_3 x11_3).f2))) (fun _ hk => hk.2) (.bool ((rd_T68 l0_3 x11_3).f3))) (fun _ hk => hk.1.2)⟩
                  have n3_ : Aside0 (((((w67.setCell ⟨gb264, 0, none⟩ (.int .i64 ((rd_T68 l0_3 x11_3).f0))).setCell ⟨gb264, 1, none⟩ (.int .i64 ((rd_T68 l0_3 x11_3).f1))).setCell ⟨gb264, 2, none⟩ (.int .i64 ((rd_T68 l0_3 x11_3).f2))).setCell ⟨gb264, 3, none⟩ (.bool ((rd_T68 l0_3 x11_3).f3))).heap[gb243]? = some (.cells #[.int .i64 a0_0, .int .i64 a0_1, .int .i64 a0_2, .slice (some ad263) l0_3.length c0_3] 24 (0, 0))) := ⟨zB BK243.out⟩; have n4_ : Aside0 (((((w67.setCell ⟨gb264, 0, none⟩ (.int .i64 ((rd_T68 l0_3 x11_3).f0))).setCell ⟨gb264, 1, none⟩ (.int .i64 ((rd_T68 l0_3 x11_3).f1))).setCell ⟨gb264, 2, none⟩ (.int .i64 ((rd_T68 l0_3 x11_3).f2))).setCell ⟨gb264, 3, none⟩ (.bool ((rd_T68 l0_3 x11_3).f3))).heap[gb244]? = some (.cells #[.int .i64 0, .int .i64 0, .int .i64 0, .slice none 0 0] 24 (0, 0))) := ⟨zB BK244.out⟩; have n5_ : Aside0 (((((w67.setCell ⟨gb264, 0, none⟩ (.int .i64 ((rd_T68 l0_3 x11_3).f0))).setCell ⟨gb264, 1, none⟩ (.int .i64 ((rd_T68 l0_3 x11_3).f1))).setCell ⟨gb264, 2, none⟩ (.int .i64 ((rd_T68 l0_3 x11_3).f2))).setCell ⟨gb264, 3, none⟩ (.bool ((rd_T68 l0_3 x11_3).f3))).heap[gb258]? = some (.cells #[.int .i64 a0_0, .int .i64 (x6_1.length : Int), .int .i64 x259002_2, u259003] 24 (0, 0))) := ⟨zB BK258.out⟩; have n6_ : Aside0 (((((w67.setCell ⟨gb264, 0, none⟩ (.int .i64 ((rd_T68 l0_3 x11_3).f0))).setCell ⟨gb264, 1, none⟩ (.int .i64 ((rd_T68 l0_3 x11_3).f1))).setCell ⟨gb264, 2, none⟩ (.int .i64 ((rd_T68 l0_3 x11_3).f2))).setCell ⟨gb264, 3, none⟩ (.bool ((rd_T68 l0_3 x11_3).f3))).heap[gb264]? = some (.cells #[.int .i64 ((rd_T68 l0_3 x11_3).f0), .int .i64 ((rd_T68 l0_3 x11_3).f1), .int .i64 ((rd_T68 l0_3 x11_3).f2), .bool ((rd_T68 l0_3 x11_3).f3)] 68 (0, 0))) := ⟨by (with_reducible repeat (first | refine blk_drewN ?_ _ | refine blk_drew ?_ | refine blk_alloc ?_ _)); refine blk_put (cs := #[.int .i64 ((rd_T68 l0_3 x11_3).f0), .int .i64 ((rd_T68 l0_3 x11_3).f1), .int .i64 ((rd_T68 l0_3 x11_3).f2), .bool false]) ?_ 3 _ rfl; (with_reducible repeat (first | refine blk_drewN ?_ _ | refine blk_drew ?_ | refine blk_alloc ?_ _)); refine blk_put (cs := #[.int .i64 ((rd_T68 l0_3 x11_3).f0), .int .i64 ((rd_T68 l0_3 x11_3).f1), .int .i64 0, .bool false]) ?_ 2 _ rfl; (with_reducible repeat (first | refine blk_drewN ?_ _ | refine blk_drew ?_ | refine blk_alloc ?_ _)); refine blk_put (cs := #[.int .i64 ((rd_T68 l0_3 x11_3).f0), .int .i64 0, .int .i64 0, .bool false]) ?_ 1 _ rfl; (with_reducible repeat (first | refine blk_drewN ?_ _ | refine blk_drew ?_ | refine blk_alloc ?_ _)); refine blk_put (cs := #[.int .i64 0, .int .i64 0, .int .i64 0, .bool false]) ?_ 0 _ rfl; (with_reducible repeat (first | refine blk_drewN ?_ _ | refine blk_drew ?_ | refine blk_alloc ?_ _)); exact BK264.out⟩
                  have n7_ : Aside0 (Below w.heap.size w ((((w67.setCell ⟨gb264, 0, none⟩ (.int .i64 ((rd_T68 l0_3 x11_3).f0))).setCell ⟨gb264, 1, none⟩ (.int .i64 ((rd_T68 l0_3 x11_3).f1))).setCell ⟨gb264, 2, none⟩ (.int .i64 ((rd_T68 l0_3 x11_3).f2))).setCell ⟨gb264, 3, none⟩ (.bool ((rd_T68 l0_3 x11_3).f3)))) := ⟨zS HB.out⟩
                  (try clear HO_6)
                  (try clear HO_7)
                  (try clear HO_259003)
                  (try clear BK243)
                  (try clear BK244)
                  (try clear BK258)
                  (try clear BK264)
                  (try clear HB)
                  generalize ((((w67.setCell ⟨gb264, 0, none⟩ (.int .i64 ((rd_T68 l0_3 x11_3).f0))).setCell ⟨gb264, 1, none⟩ (.int .i64 ((rd_T68 l0_3 x11_3).f1))).setCell ⟨gb264, 2, none⟩ (.int .i64 ((rd_T68 l0_3 x11_3).f2))).setCell ⟨gb264, 3, none⟩ (.bool ((rd_T68 l0_3 x11_3).f3))) = w72 at n0_ n1_ n2_ n3_ n4_ n5_ n6_ n7_ ⊢; have HO_6 := n0_; have HO_7 := n1_; have HO_259003 := n2_; have BK243 := n3_; have BK244 := n4_; have BK258 := n5_; have BK264 := n6_; have HB := n7_; clear n0_ n1_ n2_ n3_ n4_ n5_ n6_ n7_
                  (try (rw [drewN_self w72]; generalize hq_ : World.drewN w72 _ = w72; have n0_ : Aside0 (Kd.R k68 68 w72 w.heap.size (fun k_ => k_ ≠ gb264) u259003 x259003_3) := ⟨by rw [← hq_]; exact (zR HO_259003.out)⟩; have n1_ : Aside0 (Kd.R (Kd.int .i64) 3 w72 w.heap.size (fun k_ => some k_ ≠ (u7 : Value).ownBlock) (.slice Ao25 x6_1.length co25) x6_1) := ⟨by rw [← hq_]; exact (zR HO_6.out)⟩; have n2_ : Aside0 (Kd.R (Kd.int .i64) 3 w72 w.heap.size (fun k_ => some k_ ≠ (.slice Ao25 x6_1.length co25 : Value).ownBlock) u7 x7_1) := ⟨by rw [← hq_]; exact (zR HO_7.out)⟩; have n3_ : Aside0 (w72.heap[gb243]? = some (.cells #[.int .i64 a0_0, .int .i64 a0_1, .int .i64 a0_2, .slice (some ad263) l0_3.length c0_3] 24 (0, 0))) := ⟨by rw [← hq_]; exact (zB BK243.out)⟩; have n4_ : Aside0 (w72.heap[gb244]? = some (.cells #[.int .i64 0, .int .i64 0, .int .i64 0, .slice none 0 0] 24 (0, 0))) := ⟨by rw [← hq_]; exact (zB BK244.out)⟩; have n5_ : Aside0 (w72.heap[gb258]? = some (.cells #[.int .i64 a0_0, .int .i64 (x6_1.length : Int), .int .i64 x259002_2, u259003] 24 (0, 0))) := ⟨by rw [← hq_]; exact (zB BK258.out)⟩; have n6_ : Aside0 (w72.heap[gb264]? = some (.cells #[.int .i64 ((rd_T68 l0_3 x11_3).f0), .int .i64 ((rd_T68 l0_3 x11_3).f1), .int .i64 ((rd_T68 l0_3 x11_3).f2), .bool ((rd_T68 l0_3 x11_3).f3)] 68 (0, 0))) := ⟨by rw [← hq_]; exact (zB BK264.out)⟩; have n7_ : Aside0 (Below w.heap.size w w72) := ⟨by rw [← hq_]; exact (zS HB.out)⟩; clear HO_259003 HO_6 HO_7 BK243 BK244 BK258 BK264 HB hq_; have HO_259003 := n0_; have HO_6 := n1_; have HO_7 := n2_; have BK243 := n3_; have BK244 := n4_; have BK258 := n5_; have BK264 := n6_; have HB := n7_; clear n0_ n1_ n2_ n3_ n4_ n5_ n6_ n7_))
                  replace HO_6 := Aside0.mk (Kd.R_drew HO_6.out); replace HO_7 := Aside0.mk (Kd.R_drew HO_7.out); replace HO_259003 := Aside0.mk (Kd.R_drew HO_259003.out); replace BK243 := Aside0.mk (blk_drew BK243.out); replace BK244 := Aside0.mk (blk_drew BK244.out); replace BK258 := Aside0.mk (blk_drew BK258.out); replace BK264 := Aside0.mk (blk_drew BK264.out); replace HB := Aside0.mk (below_drew1 HB.out); obtain ⟨Ao74, co74, eo74⟩ := Kd.R_slice HO_7.out
                  (first | subst eo74 | (injection eo74 with f1_ f2_ f3_; have f4_ := f1_.symm; have f5_ := f3_.symm; clear f1_ f2_ f3_; subst f4_; subst f5_))
                  have p267 : 0 ≤ (((rd_T68 l0_3 x11_3).f0) : Int) := oD; have q267 : ((rd_T68 l0_3 x11_3).f0) < (x7_1.length : Int) := oD; obtain ⟨ad267, e267, hx267_0⟩ := Kd.at_int (Kd.R_reads' HO_7.out).2.2 ((rd_T68 l0_3 x11_3).f0) p267 q267
                  cases e267
                  replace p267 := eq_true p267; replace q267 := eq_true q267; have p268 : 0 ≤ (((rd_T68 l0_3 x11_3).f2) : Int) := oD; have q268 : ((rd_T68 l0_3 x11_3).f2) < (x7_1.length : Int) := oD; obtain ⟨ad268, e268, hx268_0⟩ := Kd.at_int (Kd.R_reads' HO_7.out).2.2 ((rd_T68 l0_3 x11_3).f2) p268 q268; obtain rfl : ad267 = ad268 := (by injection e268); replace p268 := eq_true p268; replace q268 := eq_true q268; refine start_ (n := 21) (S := fun w' => w'.cell? ⟨gb258, 0, none⟩ = some (.int .i64 a0_0) ∧ w'.cell? ⟨gb258, 1, none⟩ = some (.int .i64 (x6_1.length : Int)) ∧ w'.cell? ⟨gb258, 2, none⟩ = some (.int .i64 x259002_2) ∧ w'.cell? ⟨gb258, 3, none⟩ = some (u259003) ∧ w'.cell? ⟨gb264, 0, none⟩ = some (.int .i64 ((rd_T68 l0_3 x11_3).f0)) ∧ w'.cell? ⟨gb264, 1, none⟩ = some (.int .i64 ((rd_T68 l0_3 x11_3).f1)) ∧ w'.cell? ⟨gb264, 2, none⟩ = some (.int .i64 ((rd_T68 l0_3 x11_3).f2)) ∧ w'.cell? ⟨gb264, 3, none⟩ = some (.bool ((rd_T68 l0_3 x11_3).f3)) ∧ w'.cell? (ad267.add (((rd_T68 l0_3 x11_3).f0)).toNat) = some (.int .i64 (rd x7_1 ((rd_T68 l0_3 x11_3).f0))) ∧ w'.cell? (ad267.add (((rd_T68 l0_3 x11_3).f2)).toNat) = some (.int .i64 (rd x7_1 ((rd_T68 l0_3 x11_3).f2)))) (ds := [18, 20]) bl11 (by kernel_rfl) rfl rfl ⟨b1 BK258 0, b1 BK258 1, b1 BK258 2, b1 BK258 3, b1 BK264 0, b1 BK264 1, b1 BK264 2, b1 BK264 3, hx267_0, hx268_0⟩ (fun hHeld => ?_); refine with_tabW spec_l4Keep.tab20 spec_l4Keep.bits20 (fun HT_ HW_ => ?_); generalize w72.drew = w73 at HO_6 HO_7 HO_259003 BK243 BK244 BK258 BK264 HB hx267_0 hx268_0 hHeld ⊢
                  refine pu 0 (some 84) bl12 HT_ ?_ rfl rfl (.inl ⟨by rfl, ?_⟩) ?_ ?_ ?_; rotate_left; (intro w'; go_simp; with_reducible rfl); rotate_left; (simp only [Act.put, q5]; rfl)
                  refine pu 2 (some 86) bl13 HT_ ?_ rfl rfl (.inl ⟨by rfl, ?_⟩) ?_ ?_ ?_; rotate_left; (intro w'; go_simp; with_reducible rfl); rotate_left; (simp only [Act.put, q5]; rfl)
                  refine pu 3 (some 87) bl14 HT_ ?_ rfl rfl (.inl ⟨by rfl, ?_⟩) ?_ ?_ ?_; rotate_left; (intro w'; go_simp; with_reducible rfl); rotate_left; (simp only [Act.put, q5]; rfl)
                  refine pu 7 (some 91) bl15 HT_ ?_ rfl rfl (.inl ⟨by rfl, ?_⟩) ?_ ?_ ?_; rotate_left; (intro w'; go_simp; with_reducible rfl); rotate_left; (simp only [Act.put, q5]; rfl)
                  refine pu 9 (some 93) bl16 HT_ ?_ rfl rfl (.inl ⟨by rfl, ?_⟩) ?_ ?_ ?_; rotate_left; (intro w'; go_simp; with_reducible rfl); rotate_left; (simp only [Act.put, q5]; rfl)
                  refine pu 10 (some 94) bl17 HT_ ?_ rfl rfl (.inl ⟨by rfl, ?_⟩) ?_ ?_ ?_; rotate_left; (intro w'; go_simp; with_reducible rfl); rotate_left; (simp only [Act.put, q5]; rfl)
                  refine pu 14 (some 98) bl18 HT_ ?_ rfl rfl (.inl ⟨by rfl, ?_⟩) ?_ ?_ ?_; rotate_left; (intro w'; go_simp; with_reducible rfl); rotate_left; (simp only [Act.put, q5]; rfl)
                  refine take_ (i := 1) (N := some 85) (v := ?_) (a' := ?_) bl19 rfl rfl (take_ofW HT_.out HW_.out (by kernel_rfl)) (fun _ _ _ h => h) (Or.inl ⟨by rfl, ?_⟩) hHeld ?_ ?_; rotate_left
                  ·rintro w' ⟨s0, s1, s2, s3, s4, s5, s6, s7, s8, s9⟩; go_simp; with_reducible rfl
                  rotate_left
                  ·simp only [Act.put, q5]; rfl
                  refine take_ (i := 4) (N := some 88) (v := ?_) (a' := ?_) bl20 rfl rfl (take_ofW HT_.out HW_.out (by kernel_rfl)) (fun _ _ _ h => h) (Or.inl ⟨by rfl, ?_⟩) hHeld ?_ ?_; rotate_left
                  ·rintro w' ⟨s0, s1, s2, s3, s4, s5, s6, s7, s8, s9⟩; go_simp; with_reducible rfl
                  rotate_left
                  ·simp only [Act.put, q5]; rfl
                  refine pu 5 (some 89) bl21 HT_ ?_ rfl rfl (.inl ⟨by rfl, ?_⟩) ?_ ?_ ?_; rotate_left; (intro w'; go_simp; with_reducible rfl); rotate_left; (simp only [Act.put, q5]; rfl)
                  refine take_ (i := 6) (N := some 90) (v := ?_) (a' := ?_) bl22 rfl rfl (take_ofW HT_.out HW_.out (by kernel_rfl)) (fun _ _ _ h => h) (Or.inl ⟨by rfl, ?_⟩) hHeld ?_ ?_; rotate_left
                  ·rintro w' ⟨s0, s1, s2, s3, s4, s5, s6, s7, s8, s9⟩; go_simp; with_reducible rfl
                  rotate_left
                  ·simp only [Act.put, q5]; rfl
                  refine take_ (i := 8) (N := some 92) (v := ?_) (a' := ?_) bl23 rfl rfl (take_ofW HT_.out HW_.out (by kernel_rfl)) (fun _ _ _ h => h) (Or.inl ⟨by rfl, ?_⟩) hHeld ?_ ?_; rotate_left
                  ·rintro w' ⟨s0, s1, s2, s3, s4, s5, s6, s7, s8, s9⟩; go_simp; with_reducible rfl
                  rotate_left
                  ·simp only [Act.put, q5]; rfl
                  refine take_ (i := 11) (N := some 95) (v := ?_) (a' := ?_) bl24 rfl rfl (take_ofW HT_.out HW_.out (by kernel_rfl)) (fun _ _ _ h => h) (Or.inl ⟨by rfl, ?_⟩) hHeld ?_ ?_; rotate_left
                  ·rintro w' ⟨s0, s1, s2, s3, s4, s5, s6, s7, s8, s9⟩; go_simp; with_reducible rfl
                  rotate_left
                  ·simp only [Act.put, q5]; rfl
                  refine pu 12 (some 96) bl25 HT_ ?_ rfl rfl (.inl ⟨by rfl, ?_⟩) ?_ ?_ ?_; rotate_left; (intro w'; go_simp; with_reducible rfl); rotate_left; (simp only [Act.put, q5]; rfl)
                  refine take_ (i := 13) (N := some 97) (v := ?_) (a' := ?_) bl26 rfl rfl (take_ofW HT_.out HW_.out (by kernel_rfl)) (fun _ _ _ h => h) (Or.inl ⟨by rfl, ?_⟩) hHeld ?_ ?_; rotate_left
                  ·rintro w' ⟨s0, s1, s2, s3, s4, s5, s6, s7, s8, s9⟩; go_simp; with_reducible rfl
                  rotate_left
                  ·simp only [Act.put, q5]; rfl
                  refine take_ (i := 15) (N := some 99) (v := ?_) (a' := ?_) bl27 rfl rfl (take_ofW HT_.out HW_.out (by kernel_rfl)) (fun _ _ _ h => h) (Or.inl ⟨by rfl, ?_⟩) hHeld ?_ ?_; rotate_left
                  ·rintro w' ⟨s0, s1, s2, s3, s4, s5, s6, s7, s8, s9⟩; go_simp; with_reducible rfl
                  rotate_left
                  ·simp only [Act.put, q5]; rfl
                  refine pu 16 (some 100) bl28 HT_ ?_ rfl rfl (.inl ⟨by rfl, ?_⟩) ?_ ?_ ?_; rotate_left; (intro w'; go_simp; with_reducible rfl); rotate_left; (simp only [Act.put, q5]; rfl)
                  refine one_ (i := 17) (N := some 101) bl29 rfl rfl (one_of HT_.out (by kernel_rfl)) (by decide) (fun K hK => ?_); refine value_ (w1 := ?_) (v := ?_) (by rfl) rfl ?_ ?_; rotate_left 2
                  ·go_simp
                   constructor
                   ·rfl
                   ·rfl
                  refine hK.out _ _ ⟨(blk_cell (blk_alloc BK258.out _) 0).trans rfl, (blk_cell (blk_alloc BK258.out _) 1).trans rfl, (blk_cell (blk_alloc BK258.out _) 2).trans rfl, (blk_cell (blk_alloc BK258.out _) 3).trans rfl, (blk_cell (blk_alloc BK264.out _) 0).trans rfl, (blk_cell (blk_alloc BK264.out _) 1).trans rfl, (blk_cell (blk_alloc BK264.out _) 2).trans rfl, (blk_cell (blk_alloc BK264.out _) 3).trans rfl, (World.cell?_alloc_lt _ _ _ (World.block_lt_of_cell? _ _ (hHeld.2.2.2.2.2.2.2.2.1))).trans (hHeld.2.2.2.2.2.2.2.2.1), (World.cell?_alloc_lt _ _ _ (World.block_lt_of_cell? _ _ (hHeld.2.2.2.2.2.2.2.2.2))).trans (hHeld.2.2.2.2.2.2.2.2.2)⟩ (fun hHeld => ?_); clear hK K; refine norm_ (a' := ?_) ?_ ?_; rotate_left
                  ·show Act.put _ (some 101) _ = _; simp only [Act.put, q5]; rfl
                  refine last_ (i := 18) (N := some 102) bl30 rfl rfl (one_of HT_.out (by kernel_rfl)) (by decide) (fun K hK => ?_); refine Kd.R_append_step k68 (w0 := w) w.heap.size (by rfl) (.tmp 85) (.tmp 101) 22 68 (.agg #[(.int .i64 0), (.int .i64 0), (.int .i64 0), (.bool false)]) 32 rfl Try.underlying22 info68 rfl (by decide) (by omega) u259003 x259003_3 (⟨rd x7_1 ((rd_T68 l0_3 x11_3).f0), (rd_T68 l0_3 x11_3).f1, rd x7_1 ((rd_T68 l0_3 x11_3).f2), (rd_T68 l0_3 x11_3).f3⟩ : S68) [.int .i64 (rd x7_1 ((rd_T68 l0_3 x11_3).f0)), .int .i64 ((rd_T68 l0_3 x11_3).f1), .int .i64 (rd x7_1 ((rd_T68 l0_3 x11_3).f2)), .bool ((rd_T68 l0_3 x11_3).f3)] (fun k_ => k_ ≠ gb264) (fun _ => False) rfl rfl ?aP (fun _ hk => hk.elim) ?aF ?aO ?aB ?aS ?aL ?_
                  (case aP => exact k68_mkM _ _ _ (⟨rd x7_1 ((rd_T68 l0_3 x11_3).f0), (rd_T68 l0_3 x11_3).f1, rd x7_1 ((rd_T68 l0_3 x11_3).f2), (rd_T68 l0_3 x11_3).f3⟩ : S68))
                  (case aB => exact (zS HB.out))
                  (case aF => exact (fun k_ hk => Kd.freshB (g := gb264) (o := .cells #[.int .i64 ((rd_T68 l0_3 x11_3).f0), .int .i64 ((rd_T68 l0_3 x11_3).f1), .int .i64 ((rd_T68 l0_3 x11_3).f2), .bool ((rd_T68 l0_3 x11_3).f3)] 68 (0, 0)) (zB BK264.out) k_ hk))
                  (case aO => exact (zR HO_259003.out))
                  (case aS => exact (below_size (zS HB.out)))
                  (case aL => have := LMc63.out; omega)
                  intro v270 w75 ho hb hg hat; rw [← Ny269.out] at ho; have n0_ := Aside0.mk (Kd.R_over' (zR HO_6.out) (Kd.R_typed (zR HO_259003.out)) (by decide) hg); have n1_ := Aside0.mk (Kd.R_over' (zR HO_7.out) (Kd.R_typed (zR HO_259003.out)) (by decide) hg); have n2_ := Aside0.mk (blk_grown (g := gb243) (o := .cells #[.int .i64 a0_0, .int .i64 a0_1, .int .i64 a0_2, .slice (some ad263) l0_3.length c0_3] 24 (0, 0)) (zB BK243.out) hg (Kd.R_ne HO_259003.out BK243.out (by decide))); have n3_ := Aside0.mk (blk_grown (g := gb244) (o := .cells #[.int .i64 0, .int .i64 0, .int .i64 0, .slice none 0 0] 24 (0, 0)) (zB BK244.out) hg (Kd.R_ne HO_259003.out BK244.out (by decide))); have n4_ := Aside0.mk (blk_grown (g := gb258) (o := .cells #[.int .i64 a0_0, .int .i64 (x6_1.length : Int), .int .i64 x259002_2, u259003] 24 (0, 0)) (zB BK258.out) hg (Kd.R_ne HO_259003.out BK258.out (by decide))); have n5_ := Aside0.mk (blk_grown (g := gb264) (o := .cells #[.int .i64 ((rd_T68 l0_3 x11_3).f0), .int .i64 ((rd_T68 l0_3 x11_3).f1), .int .i64 ((rd_T68 l0_3 x11_3).f2), .bool ((rd_T68 l0_3 x11_3).f3)] 68 (0, 0)) (zB BK264.out) hg (Kd.R_away HO_259003.out (fun _ hk => hk))); have n6_ := Aside0.mk (hb); have n7_ := Aside0.mk (ho); clear HO_6; clear HO_7; clear BK243; clear BK244; clear BK258; clear BK264; clear HB; clear HO_259003; have HO_6 := n0_; have HO_7 := n1_; have BK243 := n2_; have BK244 := n3_; have BK258 := n4_; have BK264 := n5_; have HB := n6_; have HO271 := n7_; clear n0_ n1_ n2_ n3_ n4_ n5_ n6_ n7_; clear ho hb hg hat; obtain ⟨Ao76, co76, eo76⟩ := Kd.R_slice HO271.out
                  (first | subst eo76 | (injection eo76 with f1_ f2_ f3_; have f4_ := f1_.symm; have f5_ := f3_.symm; clear f1_ f2_ f3_; subst f4_; subst f5_))
                  refine hK.out _ _ ?_; clear hK K; refine norm_ (a' := ?_) ?_ ?_; rotate_left
                  ·show Act.put _ (some 102) _ = _; simp only [Act.put, q5]; rfl
                  refine pu 19 (some 103) bl31 HT_ ?_ rfl rfl (.inl ⟨by rfl, ?_⟩) ?_ ?_ ?_; rotate_left; (intro w'; go_simp; with_reducible rfl); rotate_left; (simp only [Act.put, q5]; rfl)
                  refine last_ (i := 20) (N := none) bl32 rfl rfl (one_of HT_.out (by kernel_rfl)) (by decide) (fun K hK => ?_); have hs77 : w75.cell? ⟨gb258, 3, none⟩ = some (u259003) := b1 BK258 3; have hfs77 := blk_frozen BK258.out 3; have hns77_0 := NB243_258.out; have hns77_1 := NB244_258.out; have hns77_3 := NB264_258.out; have hms77_0 := NB258_243.out; have hms77_1 := NB258_244.out; have hms77_3 := NB258_264.out; refine skip_ (w1 := ?_) (by rfl) rfl ?_ ?_; rotate_left
                  ·go_simp; rfl
                  refine hK.out _ _ ?_; clear hK K; refine done_ (done_of HT_.out (by kernel_rfl)) ?_
                  try go_wp2
                  go_roundg k3
                  case measure => have := HK1.out; have := HK2.out; have := HK3.out; omega
                  case rel => exact ⟨(wrap64 (x11_3 + 1)), (y269), (.slice Ao76 y269.length co76), (by first | rfl | (simp; done) | (simp [*]; done) | (rw [Int.tmod_eq_emod_of_nonneg (Int.natCast_nonneg _)]; done)), H', ⟨by have := HK1.out; have := HK2.out; have := HK3.out; omega⟩, ⟨by (with_reducible repeat (first | apply Kd.R_alloc | apply Kd.R_drewN | apply Kd.R_drew)); exact Kd.R_mono (Kd.R_far (p := ⟨gb258, 3, none⟩) (Kd.R_types HO_6.out BK258.out (by decide)) (fun _ hk => hk.2) (.slice Ao76 y269.length co76)) (fun _ hk => hk.1)⟩, ⟨by (with_reducible repeat (first | apply Kd.R_alloc | apply Kd.R_drewN | apply Kd.R_drew)); exact Kd.R_mono (Kd.R_far (p := ⟨gb258, 3, none⟩) (Kd.R_types HO_7.out BK258.out (by decide)) (fun _ hk => hk.2) (.slice Ao76 y269.length co76)) (fun _ hk => hk.1)⟩, ⟨by (with_reducible repeat (first | apply Kd.R_alloc | apply Kd.R_drewN | apply Kd.R_drew)); exact Kd.R_mono (Kd.R_far (p := ⟨gb258, 3, none⟩) (Kd.R_types HO271.out BK258.out (by decide)) (fun _ hk => hk.2) (.slice Ao76 y269.length co76)) (fun _ hk => trivial)⟩, ⟨zB BK243.out⟩, ⟨zB BK244.out⟩, ⟨by (with_reducible repeat (first | refine blk_drewN ?_ _ | refine blk_drew ?_ | refine blk_alloc ?_ _)); refine blk_put (cs := #[.int .i64 a0_0, .int .i64 (x6_1.length : Int), .int .i64 x259002_2, u259003]) ?_ 3 _ rfl; (with_reducible repeat (first | refine blk_drewN ?_ _ | refine blk_drew ?_ | refine blk_alloc ?_ _)); exact BK258.out⟩, ⟨zS HB.out⟩⟩
                 ·rw [if_neg c63] at H; exact absurd H (by simp)
                ·rw [if_neg c62] at H; exact absurd H (by simp)
               ·rw [if_neg c61] at H; exact absurd H (by simp)
              ·rw [if_neg c60] at H; exact absurd H (by simp)
             ·rw [if_neg c59] at H; exact absurd H (by simp)
            ·replace c58 := Bool.eq_false_iff.mpr c58; subst c58
             have H1 : (spec_l4Keep.l2 k3 a1 x6_1 x7_1 (wrap64 (x11_3 + 1)) a0_0 a0_1 a0_2 l0_3 a0_0 (x6_1.length : Int) x259002_2 x259003_3) = some (r1, r2, r3, r4, r5) := by rw [if_neg (show ¬ (false = true) by decide)] at H; exact H
             clear H; have H := H1; clear H1; have H' := Aside0.mk H; clear H; have hnb78 := NB243_244.out; have hnc78 := NB244_243.out; have hnb79 := NB243_258.out; have hnc79 := NB258_243.out; have hcz80_0 : wr.cell? ⟨gb243, 0, none⟩ = some (.int .i64 a0_0) := b1 BK243 0; have hcz80_1 : wr.cell? ⟨gb243, 1, none⟩ = some (.int .i64 a0_1) := b1 BK243 1; have hcz80_2 : wr.cell? ⟨gb243, 2, none⟩ = some (.int .i64 a0_2) := b1 BK243 2; have hcz80_3 : wr.cell? ⟨gb243, 3, none⟩ = some (.slice A0_3 l0_3.length c0_3) := b1 BK243 3; have hfz80_0 := blk_frozen BK243.out 0; have hfz80_1 := blk_frozen BK243.out 1; have hfz80_2 := blk_frozen BK243.out 2; have hfz80_3 := blk_frozen BK243.out 3; have p263 : 0 ≤ (x11_3 : Int) := oD; have q263 : x11_3 < (l0_3.length : Int) := oD; obtain ⟨ad263, e263, hx263_0, hx263_1, hx263_2, hx263_3⟩ := at_T68 HR0_3.out x11_3 p263 q263
             cases e263
             replace hx263_0 := cT HB hx263_0; replace hx263_1 := cT HB hx263_1; replace hx263_2 := cT HB hx263_2; replace hx263_3 := cT HB hx263_3; replace p263 := eq_true p263; replace q263 := eq_true q263
             go_wp2_with (first | ((with_reducible refine gate_dst (N := 12) rfl ?_); refine box_event ?hg (N := 12) ?hd (cs := #[.int .i64 0, .int .i64 0, .int .i64 0, .bool false]) (t := 68) ?hr ?_; (case hd => rfl); (case hg => rfl); (case hr => first | (go_simp; done) | (go_simp; rfl)); intro gb264 hg w81 hbox hb; replace HO_6 := xR HO_6 hb; replace HO_7 := xR HO_7 hb; replace HO_259003 := Aside0.mk (Kd.R_below (Kd.R_elderB (zR HO_259003.out) gb264 (Nat.le_of_eq hg.symm)) hb); have BK264 := Aside0.mk (hbox); have GW264 := xG HB hg; have GE264 := xG HB hg; replace HB := xS HB hb; have NB243_264 := xN BK243 hg; have NB264_243 := xM BK243 hg; replace BK243 := xB BK243 hb; have NB244_264 := xN BK244 hg; have NB264_244 := xM BK244 hg; replace BK244 := xB BK244 hb; have NB258_264 := xN BK258 hg; have NB264_258 := xM BK258 hg; replace BK258 := xB BK258 hb; clear hb hbox hg; have hnb82 := NB264_243.out; have hnc82 := NB243_264.out; have hnb83 := NB264_244.out; have hnc83 := NB244_264.out; have hnb84 := NB264_258.out; have hnc84 := NB258_264.out; have hcz85_0 : w81.cell? ⟨gb264, 0, none⟩ = some (.int .i64 0) := b1 BK264 0; have hcz85_1 : w81.cell? ⟨gb264, 1, none⟩ = some (.int .i64 0) := b1 BK264 1; have hcz85_2 : w81.cell? ⟨gb264, 2, none⟩ = some (.int .i64 0) := b1 BK264 2; have hcz85_3 : w81.cell? ⟨gb264, 3, none⟩ = some (.bool false) := b1 BK264 3; have hfz85_0 := blk_frozen BK264.out 0; have hfz85_1 := blk_frozen BK264.out 1; have hfz85_2 := blk_frozen BK264.out 2; have hfz85_3 := blk_frozen BK264.out 3) | ((with_reducible refine gate_callee (f := 96) rfl ?_); refine goesL_ (some 77) rfl rfl Try.func96 (by kernel_rfl) rfl #[.int .i64 a1, .int .i64 ((rd_T68 l0_3 x11_3).f0)] rfl (by (try simp only [m3]); first | done | rfl | (simp only [d2]; rfl)) ?_; (with_reducible refine (spec_l1Has.calls a1 ((rd_T68 l0_3 x11_3).f0) true _ A55.out).mono ?_); rintro e w' ⟨rfl, ⟨nd, rfl⟩⟩; refine ⟨_, rfl, ?_⟩) | (go_at_call 96; (with_reducible refine (spec_l1Has.calls a1 ((rd_T68 l0_3 x11_3).f2) false _ A57.out).mono ?_); rintro e w' ⟨rfl, ⟨nd, rfl⟩⟩))
             go_roundg k3
             case measure => have := HK1.out; have := HK2.out; have := HK3.out; omega
             case rel => exact ⟨(wrap64 (x11_3 + 1)), (x259003_3), (u259003), (by first | rfl | (simp; done) | (simp [*]; done) | (rw [Int.tmod_eq_emod_of_nonneg (Int.natCast_nonneg _)]; done)), H', ⟨by have := HK1.out; have := HK2.out; have := HK3.out; omega⟩, ⟨by (with_reducible repeat (first | apply Kd.R_alloc | apply Kd.R_drewN | apply Kd.R_drew)); exact Kd.R_mono (Kd.R_far (p := ⟨gb264, 3, none⟩) (Kd.R_far (p := ⟨gb264, 2, none⟩) (Kd.R_far (p := ⟨gb264, 1, none⟩) (Kd.R_far (p := ⟨gb264, 0, none⟩) (Kd.R_types HO_6.out BK264.out (by decide)) (fun _ hk => hk.2) (.int .i64 ((rd_T68 l0_3 x11_3).f0))) (fun _ hk => hk.2) (.int .i64 ((rd_T68 l0_3 x11_3).f1))) (fun _ hk => hk.2) (.int .i64 ((rd_T68 l0_3 x11_3).f2))) (fun _ hk => hk.2) (.bool ((rd_T68 l0_3 x11_3).f3))) (fun _ hk => hk.1)⟩, ⟨by (with_reducible repeat (first | apply Kd.R_alloc | apply Kd.R_drewN | apply Kd.R_drew)); exact Kd.R_mono (Kd.R_far (p := ⟨gb264, 3, none⟩) (Kd.R_far (p := ⟨gb264, 2, none⟩) (Kd.R_far (p := ⟨gb264, 1, none⟩) (Kd.R_far (p := ⟨gb264, 0, none⟩) (Kd.R_types HO_7.out BK264.out (by decide)) (fun _ hk => hk.2) (.int .i64 ((rd_T68 l0_3 x11_3).f0))) (fun _ hk => hk.2) (.int .i64 ((rd_T68 l0_3 x11_3).f1))) (fun _ hk => hk.2) (.int .i64 ((rd_T68 l0_3 x11_3).f2))) (fun _ hk => hk.2) (.bool ((rd_T68 l0_3 x11_3).f3))) (fun _ hk => hk.1)⟩, ⟨by (with_reducible repeat (first | apply Kd.R_alloc | apply Kd.R_drewN | apply Kd.R_drew)); exact Kd.R_mono (Kd.R_far (p := ⟨gb264, 3, none⟩) (Kd.R_far (p := ⟨gb264, 2, none⟩) (Kd.R_far (p := ⟨gb264, 1, none⟩) (Kd.R_far (p := ⟨gb264, 0, none⟩) (Kd.R_mono HO_259003.out (fun k_ hk => (⟨hk, hk.2⟩ : _ ∧ k_ ≠ gb264))) (fun _ hk => hk.2) (.int .i64 ((rd_T68 l0_3 x11_3).f0))) (fun _ hk => hk.2) (.int .i64 ((rd_T68 l0_3 x11_3).f1))) (fun _ hk => hk.2) (.int .i64 ((rd_T68 l0_3 x11_3).f2))) (fun _ hk => hk.2) (.bool ((rd_T68 l0_3 x11_3).f3))) (fun _ hk => trivial)⟩, ⟨zB BK243.out⟩, ⟨zB BK244.out⟩, ⟨zB BK258.out⟩, ⟨zS HB.out⟩⟩
           ·replace c56 := Bool.eq_false_iff.mpr c56; subst c56
            have H1 : (spec_l4Keep.l2 k3 a1 x6_1 x7_1 (wrap64 (x11_3 + 1)) a0_0 a0_1 a0_2 l0_3 a0_0 (x6_1.length : Int) x259002_2 x259003_3) = some (r1, r2, r3, r4, r5) := by rw [if_neg (show ¬ (false = true) by decide)] at H; exact H
            clear H; have H := H1; clear H1; have H' := Aside0.mk H; clear H; have hnb86 := NB243_244.out; have hnc86 := NB244_243.out; have hnb87 := NB243_258.out; have hnc87 := NB258_243.out; have hcz88_0 : wr.cell? ⟨gb243, 0, none⟩ = some (.int .i64 a0_0) := b1 BK243 0; have hcz88_1 : wr.cell? ⟨gb243, 1, none⟩ = some (.int .i64 a0_1) := b1 BK243 1; have hcz88_2 : wr.cell? ⟨gb243, 2, none⟩ = some (.int .i64 a0_2) := b1 BK243 2; have hcz88_3 : wr.cell? ⟨gb243, 3, none⟩ = some (.slice A0_3 l0_3.length c0_3) := b1 BK243 3; have hfz88_0 := blk_frozen BK243.out 0; have hfz88_1 := blk_frozen BK243.out 1; have hfz88_2 := blk_frozen BK243.out 2; have hfz88_3 := blk_frozen BK243.out 3; have p263 : 0 ≤ (x11_3 : Int) := oD; have q263 : x11_3 < (l0_3.length : Int) := oD; obtain ⟨ad263, e263, hx263_0, hx263_1, hx263_2, hx263_3⟩ := at_T68 HR0_3.out x11_3 p263 q263
            cases e263
            replace hx263_0 := cT HB hx263_0; replace hx263_1 := cT HB hx263_1; replace hx263_2 := cT HB hx263_2; replace hx263_3 := cT HB hx263_3; replace p263 := eq_true p263; replace q263 := eq_true q263
            go_wp2_with (first | ((with_reducible refine gate_dst (N := 12) rfl ?_); refine box_event ?hg (N := 12) ?hd (cs := #[.int .i64 0, .int .i64 0, .int .i64 0, .bool false]) (t := 68) ?hr ?_; (case hd => rfl); (case hg => rfl); (case hr => first | (go_simp; done) | (go_simp; rfl)); intro gb264 hg w89 hbox hb; replace HO_6 := xR HO_6 hb; replace HO_7 := xR HO_7 hb; replace HO_259003 := Aside0.mk (Kd.R_below (Kd.R_elderB (zR HO_259003.out) gb264 (Nat.le_of_eq hg.symm)) hb); have BK264 := Aside0.mk (hbox); have GW264 := xG HB hg; have GE264 := xG HB hg; replace HB := xS HB hb; have NB243_264 := xN BK243 hg; have NB264_243 := xM BK243 hg; replace BK243 := xB BK243 hb; have NB244_264 := xN BK244 hg; have NB264_244 := xM BK244 hg; replace BK244 := xB BK244 hb; have NB258_264 := xN BK258 hg; have NB264_258 := xM BK258 hg; replace BK258 := xB BK258 hb; clear hb hbox hg; have hnb90 := NB264_243.out; have hnc90 := NB243_264.out; have hnb91 := NB264_244.out; have hnc91 := NB244_264.out; have hnb92 := NB264_258.out; have hnc92 := NB258_264.out; have hcz93_0 : w89.cell? ⟨gb264, 0, none⟩ = some (.int .i64 0) := b1 BK264 0; have hcz93_1 : w89.cell? ⟨gb264, 1, none⟩ = some (.int .i64 0) := b1 BK264 1; have hcz93_2 : w89.cell? ⟨gb264, 2, none⟩ = some (.int .i64 0) := b1 BK264 2; have hcz93_3 : w89.cell? ⟨gb264, 3, none⟩ = some (.bool false) := b1 BK264 3; have hfz93_0 := blk_frozen BK264.out 0; have hfz93_1 := blk_frozen BK264.out 1; have hfz93_2 := blk_frozen BK264.out 2; have hfz93_3 := blk_frozen BK264.out 3) | ((with_reducible refine gate_callee (f := 96) rfl ?_); refine goesL_ (some 77) rfl rfl Try.func96 (by kernel_rfl) rfl #[.int .i64 a1, .int .i64 ((rd_T68 l0_3 x11_3).f0)] rfl (by (try simp only [m3]); first | done | rfl | (simp only [d2]; rfl)) ?_; (with_reducible refine (spec_l1Has.calls a1 ((rd_T68 l0_3 x11_3).f0) false _ A55.out).mono ?_); rintro e w' ⟨rfl, ⟨nd, rfl⟩⟩; refine ⟨_, rfl, ?_⟩))
            go_roundg k3
            case measure => have := HK1.out; have := HK2.out; have := HK3.out; omega
            case rel => exact ⟨(wrap64 (x11_3 + 1)), (x259003_3), (u259003), (by first | rfl | (simp; done) | (simp [*]; done) | (rw [Int.tmod_eq_emod_of_nonneg (Int.natCast_nonneg _)]; done)), H', ⟨by have := HK1.out; have := HK2.out; have := HK3.out; omega⟩, ⟨by (with_reducible repeat (first | apply Kd.R_alloc | apply Kd.R_drewN | apply Kd.R_drew)); exact Kd.R_mono (Kd.R_far (p := ⟨gb264, 3, none⟩) (Kd.R_far (p := ⟨gb264, 2, none⟩) (Kd.R_far (p := ⟨gb264, 1, none⟩) (Kd.R_far (p := ⟨gb264, 0, none⟩) (Kd.R_types HO_6.out BK264.out (by decide)) (fun _ hk => hk.2) (.int .i64 ((rd_T68 l0_3 x11_3).f0))) (fun _ hk => hk.2) (.int .i64 ((rd_T68 l0_3 x11_3).f1))) (fun _ hk => hk.2) (.int .i64 ((rd_T68 l0_3 x11_3).f2))) (fun _ hk => hk.2) (.bool ((rd_T68 l0_3 x11_3).f3))) (fun _ hk => hk.1)⟩, ⟨by (with_reducible repeat (first | apply Kd.R_alloc | apply Kd.R_drewN | apply Kd.R_drew)); exact Kd.R_mono (Kd.R_far (p := ⟨gb264, 3, none⟩) (Kd.R_far (p := ⟨gb264, 2, none⟩) (Kd.R_far (p := ⟨gb264, 1, none⟩) (Kd.R_far (p := ⟨gb264, 0, none⟩) (Kd.R_types HO_7.out BK264.out (by decide)) (fun _ hk => hk.2) (.int .i64 ((rd_T68 l0_3 x11_3).f0))) (fun _ hk => hk.2) (.int .i64 ((rd_T68 l0_3 x11_3).f1))) (fun _ hk => hk.2) (.int .i64 ((rd_T68 l0_3 x11_3).f2))) (fun _ hk => hk.2) (.bool ((rd_T68 l0_3 x11_3).f3))) (fun _ hk => hk.1)⟩, ⟨by (with_reducible repeat (first | apply Kd.R_alloc | apply Kd.R_drewN | apply Kd.R_drew)); exact Kd.R_mono (Kd.R_far (p := ⟨gb264, 3, none⟩) (Kd.R_far (p := ⟨gb264, 2, none⟩) (Kd.R_far (p := ⟨gb264, 1, none⟩) (Kd.R_far (p := ⟨gb264, 0, none⟩) (Kd.R_mono HO_259003.out (fun k_ hk => (⟨hk, hk.2⟩ : _ ∧ k_ ≠ gb264))) (fun _ hk => hk.2) (.int .i64 ((rd_T68 l0_3 x11_3).f0))) (fun _ hk => hk.2) (.int .i64 ((rd_T68 l0_3 x11_3).f1))) (fun _ hk => hk.2) (.int .i64 ((rd_T68 l0_3 x11_3).f2))) (fun _ hk => hk.2) (.bool ((rd_T68 l0_3 x11_3).f3))) (fun _ hk => trivial)⟩, ⟨zB BK243.out⟩, ⟨zB BK244.out⟩, ⟨zB BK258.out⟩, ⟨zS HB.out⟩⟩
          ·rw [if_neg c54] at H; exact absurd H (by simp)
         ·rw [if_neg c53] at H; have c53b0 : decide (x11_3 < (l0_3.length : Int)) = false := decide_eq_false c53; clear c53; simp only [Option.some.injEq, Prod.mk.injEq] at H; obtain ⟨rfl, rfl, rfl, rfl, rfl⟩ := H; have hnb94 := NB243_244.out; have hnc94 := NB244_243.out; have hnb95 := NB243_258.out; have hnc95 := NB258_243.out; have hcz96_0 : wr.cell? ⟨gb243, 0, none⟩ = some (.int .i64 a0_0) := b1 BK243 0; have hcz96_1 : wr.cell? ⟨gb243, 1, none⟩ = some (.int .i64 a0_1) := b1 BK243 1; have hcz96_2 : wr.cell? ⟨gb243, 2, none⟩ = some (.int .i64 a0_2) := b1 BK243 2; have hcz96_3 : wr.cell? ⟨gb243, 3, none⟩ = some (.slice A0_3 l0_3.length c0_3) := b1 BK243 3; have hfz96_0 := blk_frozen BK243.out 0; have hfz96_1 := blk_frozen BK243.out 1; have hfz96_2 := blk_frozen BK243.out 2; have hfz96_3 := blk_frozen BK243.out 3; have hnb97 := NB258_244.out; have hnc97 := NB244_258.out; have hcz98_0 : wr.cell? ⟨gb258, 0, none⟩ = some (.int .i64 a0_0) := b1 BK258 0; have hcz98_1 : wr.cell? ⟨gb258, 1, none⟩ = some (.int .i64 (x6_1.length : Int)) := b1 BK258 1; have hcz98_2 : wr.cell? ⟨gb258, 2, none⟩ = some (.int .i64 x259002_2) := b1 BK258 2; have hcz98_3 : wr.cell? ⟨gb258, 3, none⟩ = some (u259003) := b1 BK258 3; have hfz98_0 := blk_frozen BK258.out 0; have hfz98_1 := blk_frozen BK258.out 1; have hfz98_2 := blk_frozen BK258.out 2; have hfz98_3 := blk_frozen BK258.out 3; have hcz99_0 : wr.cell? ⟨gb244, 0, none⟩ = some (.int .i64 0) := b1 BK244 0; have hcz99_1 : wr.cell? ⟨gb244, 1, none⟩ = some (.int .i64 0) := b1 BK244 1; have hcz99_2 : wr.cell? ⟨gb244, 2, none⟩ = some (.int .i64 0) := b1 BK244 2; have hcz99_3 : wr.cell? ⟨gb244, 3, none⟩ = some (.slice none 0 0) := b1 BK244 3; have hfz99_0 := blk_frozen BK244.out 0; have hfz99_1 := blk_frozen BK244.out 1; have hfz99_2 := blk_frozen BK244.out 2; have hfz99_3 := blk_frozen BK244.out 3; obtain ⟨Ao100, co100, eo100⟩ := Kd.R_slice HO_259003.out; subst eo100
          go_wp2
          refine bodyPost_ret (results_ct rfl _ _ gb244 24 #[.int .i64 a0_0, .int .i64 (x6_1.length : Int), .int .i64 x259002_2, .slice Ao100 x259003_3.length co100] (0, 0) _ rfl (xP4 BK244.out) Try.underlying24 rfl (by kernel_rfl)) rfl ?_; exact ⟨_, _, by first | rfl | (simp [errW_none, errW_some] <;> rfl) | (simp [*, errW_none, errW_some] <;> rfl), by (with_reducible repeat (first | apply Kd.R_alloc | apply Kd.R_drewN | apply Kd.R_drew)); exact Kd.R_mono (Kd.R_far (p := ⟨gb244, 3, none⟩) (Kd.R_far (p := ⟨gb244, 2, none⟩) (Kd.R_far (p := ⟨gb244, 1, none⟩) (Kd.R_far (p := ⟨gb244, 0, none⟩) (Kd.R_types HO_259003.out BK244.out (by decide)) (fun _ hk => hk.2) (.int .i64 a0_0)) (fun _ hk => hk.2) (.int .i64 (x6_1.length : Int))) (fun _ hk => hk.2) (.int .i64 x259002_2)) (fun _ hk => hk.2) (.slice Ao100 x259003_3.length co100)) (fun _ hk => trivial), by (with_reducible repeat (first | apply Kd.R_alloc | apply Kd.R_drewN | apply Kd.R_drew)); exact Kd.R_mono (Kd.R_far (p := ⟨gb244, 3, none⟩) (Kd.R_far (p := ⟨gb244, 2, none⟩) (Kd.R_far (p := ⟨gb244, 1, none⟩) (Kd.R_far (p := ⟨gb244, 0, none⟩) (Kd.R_types HO_6.out BK244.out (by decide)) (fun _ hk => hk.2) (.int .i64 a0_0)) (fun _ hk => hk.2) (.int .i64 (x6_1.length : Int))) (fun _ hk => hk.2) (.int .i64 x259002_2)) (fun _ hk => hk.2) (.slice Ao100 x259003_3.length co100)) (fun _ hk => trivial), by repeat (first | (with_reducible first | exact HB.out | apply below_alloc | apply pw_below_drewN | apply below_drew1 | refine below_set ?_ GE243.out | refine below_set ?_ GE244.out | refine below_set ?_ GE258.out) | exact HB.out)⟩

end Go.Proofs.Ytlallflpicgcmaa.MFnExactAutoTrim
