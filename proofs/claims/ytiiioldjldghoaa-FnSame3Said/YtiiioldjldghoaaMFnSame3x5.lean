-- Written by a program of this session, out of Lean's print of the translation. Not trusted: Lean checks it.
import Derived.Test.YtiiioldjldghoaaMFnSame3x0
import Derived.Test.YtiiioldjldghoaaMFnSame3x4
namespace Go.Proofs.Ytiiioldjldghoaa.MFnSame3
open Go.RowKit Go.Proofs.YtiiioldjldghoaaW.PrintWords Go.Proofs.YtiiioldjldghoaaW.PrintLast Go.Proofs.YtiiioldjldghoaaW.PrintMore Go.Proofs.Ytiiioldjldghoaa.Short6
attribute [local go_sem] max2_int min2_int max_two min_two max_three min_three max_four min_four   -- for this text's walks alone
set_option linter.unusedVariables false
set_option linter.unusedSimpArgs false


/-! ### slices_Concat_int_int: function 26 -/
mutual
def slices_Concat_int_int.l0 : Nat → List (List Int) → Int → List (List Int) → Int → Int → Option (List Int)
 | 0, _, _, _, _, _ => none
 | k + 1, x0, x3, x9, x10, x11 => if x11 < x10 then (if 0 ≤ x11 then (if x11 < (x9.length : Int) then (if (wrap64 (x3 + ((rd_L2 x9 x11).length : Int))) < 0 then (none) else (slices_Concat_int_int.l0 k x0 (wrap64 (x3 + ((rd_L2 x9 x11).length : Int))) x9 x10 (wrap64 (x11 + 1)))) else (none)) else (none)) else ((slices_Grow_int_int.f ([] : List Int) x3).bind fun t385 => (slices_Concat_int_int.l1 k t385 x0 (x0.length : Int) 0))
def slices_Concat_int_int.l1 : Nat → List Int → List (List Int) → Int → Int → Option (List Int)
 | 0, _, _, _, _ => none
 | k + 1, x6, x25, x26, x27 => if x27 < x26 then (if 0 ≤ x27 then (if x27 < (x25.length : Int) then (if x6.length + (rd_L2 x25 x27).length < 17592186044416 then (slices_Concat_int_int.l1 k (x6 ++ (rd_L2 x25 x27)) x25 x26 (wrap64 (x27 + 1))) else (none)) else (none)) else (none)) else (some x6)
end
def slices_Concat_int_int.f (k : Nat) (l0 : List (List Int)) : Option (List Int) := slices_Concat_int_int.l0 k l0 0 l0 (l0.length : Int) 0
theorem slices_Concat_int_int.mono_l : ∀ k, (∀ y0 y1 y2 y3 y4, LeO (slices_Concat_int_int.l0 k y0 y1 y2 y3 y4) (slices_Concat_int_int.l0 (k + 1) y0 y1 y2 y3 y4)) ∧ (∀ y0 y1 y2 y3, LeO (slices_Concat_int_int.l1 k y0 y1 y2 y3) (slices_Concat_int_int.l1 (k + 1) y0 y1 y2 y3))
 | 0 => ⟨fun _ _ _ _ _ r h => by simp [slices_Concat_int_int.l0] at h, fun _ _ _ _ r h => by simp [slices_Concat_int_int.l1] at h⟩
 | k + 1 => by
  obtain ⟨ih0, ih1⟩ := slices_Concat_int_int.mono_l k
  refine ⟨?_, ?_⟩
  ·intro y0 y1 y2 y3 y4
   unfold slices_Concat_int_int.l0
   repeat' first
   | (with_reducible exact ih0 _ _ _ _ _)
   | (with_reducible exact ih1 _ _ _ _)
   | (with_reducible exact LeO.refl _)
   | (with_reducible exact LeO.none _)
   | (with_reducible refine LeO.ite ?_ ?_)
   | (with_reducible refine LeO.bind ?_ (fun _ => ?_))
   | exact ih0 _ _ _ _ _
   | exact ih1 _ _ _ _
   | exact LeO.none _
   | refine LeO.ite ?_ ?_
   | refine LeO.bind ?_ (fun _ => ?_)
  ·intro y0 y1 y2 y3
   unfold slices_Concat_int_int.l1
   repeat' first
   | (with_reducible exact ih0 _ _ _ _ _)
   | (with_reducible exact ih1 _ _ _ _)
   | (with_reducible exact LeO.refl _)
   | (with_reducible exact LeO.none _)
   | (with_reducible refine LeO.ite ?_ ?_)
   | (with_reducible refine LeO.bind ?_ (fun _ => ?_))
   | exact ih0 _ _ _ _ _
   | exact ih1 _ _ _ _
   | exact LeO.none _
   | refine LeO.ite ?_ ?_
   | refine LeO.bind ?_ (fun _ => ?_)
theorem slices_Concat_int_int.mono : ∀ a0 k, LeO (slices_Concat_int_int.f k a0) (slices_Concat_int_int.f (k + 1) a0) := by
 intro a0 k
 obtain ⟨ih0, ih1⟩ := slices_Concat_int_int.mono_l k
 unfold slices_Concat_int_int.f
 repeat' first
   | (with_reducible exact ih0 _ _ _ _ _)
   | (with_reducible exact ih1 _ _ _ _)
   | (with_reducible exact LeO.refl _)
   | (with_reducible exact LeO.none _)
   | (with_reducible refine LeO.ite ?_ ?_)
   | (with_reducible refine LeO.bind ?_ (fun _ => ?_))
   | exact ih0 _ _ _ _ _
   | exact ih1 _ _ _ _
   | exact LeO.none _
   | refine LeO.ite ?_ ?_
   | refine LeO.bind ?_ (fun _ => ?_)
open Go.Proofs.Ytiiioldjldghoaa.Short2 in
set_option maxHeartbeats 8000000 in
set_option maxRecDepth 100000 in
theorem slices_Concat_int_int.calls (k : Nat) (A0 : Option Addr) (c0 : Nat) (l0 : List (List Int)) (r : List Int) (w : World) (hr0 : Kd.C (Kd.slice 3 (Kd.int .i64)) w A0 l0.length l0) (hc0 : l0.length ≤ c0) (h : slices_Concat_int_int.f k l0 = some r) :
  Calls Try.prog 26 #[.slice A0 l0.length c0] w fun e w' => ∃ v0_ : Value, e = .returned (v0_) ∧ Kd.R (Kd.int .i64) 3 w' w.heap.size (fun _ => True) v0_ r ∧ Below w.heap.size w w' := by
 have HR0 := Aside0.mk hr0; have HC0 := Aside0.mk hc0; clear hr0 hc0; have HB := Aside0.mk (Below.refl w.heap.size w); have H : (slices_Concat_int_int.l0 k l0 0 l0 (l0.length : Int) 0) = some r := h; clear h; have H' := Aside0.mk H; clear H
 go_enter Try.func26, Try.ntmps26
 go_wp2
 go_loopg [3, 11] k (fun kq v3 az w' => ∃ (x3_1 : Int) (ab : Int), v3 = .int .i64 x3_1 ∧ az = .int .i64 ab ∧ Aside0 (slices_Concat_int_int.l0 kq l0 x3_1 l0 (l0.length : Int) ab = some r) ∧ Aside0 (kq ≤ k) ∧ Aside0 (Below w.heap.size w w'))
 case atStart => exact ⟨(0), (0), vv, vv, H', ⟨Nat.le_refl _⟩, ⟨zS HB.out⟩⟩
 case round =>
  clear H'; obtain ⟨x3_1, ab, rfl, rfl, HA, HK1, HB⟩ := hrel
  cases gk with
  | zero => exact absurd HA.out (by simp [slices_Concat_int_int.l0])
  | succ k1 =>
   have H := HA.out; clear HA; simp only [slices_Concat_int_int.l0] at H
   by_cases c2 : ab < (l0.length : Int)
   ·rw [if_pos c2] at H; have al : decide (ab < (l0.length : Int)) = true := decide_eq_true c2; clear c2
    by_cases c3 : 0 ≤ ab
    ·rw [if_pos c3] at H; have av : decide (0 ≤ ab) = true := decide_eq_true c3; clear c3
     by_cases c4 : ab < (l0.length : Int)
     ·rw [if_pos c4] at H; have aw : decide (ab < (l0.length : Int)) = true := decide_eq_true c4; clear c4
      by_cases c5 : (wrap64 (x3_1 + ((rd_L2 l0 ab).length : Int))) < 0
      ·rw [if_pos c5] at H; exact absurd H (by simp)
      ·rw [if_neg c5] at H; have ax : decide ((wrap64 (x3_1 + ((rd_L2 l0 ab).length : Int))) < 0) = false := decide_eq_false c5; clear c5; have H' := Aside0.mk H; clear H; have af : 0 ≤ (ab : Int) := oD; have q384 : ab < (l0.length : Int) := oD; obtain ⟨ad384, A384_0, c384_0, e384, ad, hl384_0, hi384_0⟩ := at_L2 HR0.out ab af q384
       cases e384
       replace ad := ct_ HB ad; have HR384_0 := Aside0.mk hi384_0; have HC384_0 := Aside0.mk hl384_0; clear hi384_0 hl384_0; replace af := eq_true af; replace q384 := eq_true q384
       go_wp2
       go_roundg k1
       case measure => have := HK1.out; omega
       case rel => exact ⟨(wrap64 (x3_1 + ((rd_L2 l0 ab).length : Int))), (wrap64 (ab + 1)), vv, vv, H', ⟨by have := HK1.out; omega⟩, ⟨zS HB.out⟩⟩
     ·rw [if_neg c4] at H; exact absurd H (by simp)
    ·rw [if_neg c3] at H; exact absurd H (by simp)
   ·rw [if_neg c2] at H; have al : decide (ab < (l0.length : Int)) = false := decide_eq_false c2; clear c2; replace H := bI H; obtain ⟨ag, aq, H⟩ := H; replace H : (slices_Concat_int_int.l1 k1 ag l0 (l0.length : Int) 0) = some r := H; have A6 := Aside0.mk aq; clear aq; have H' := Aside0.mk H; clear H
    go_wp2_with (first | ((with_reducible refine gate_callee (f := 34) rfl ?_); refine gl_ (some 24) Try.func34 #[.slice none 0 0, .int .i64 x3_1] ?_; (refine (slices_Grow_int_int.calls none 0 ([] : List Int) x3_1 ag _ ?side1 ?side2 A6.out).mono ?_); (case side1 => exact Kd.C_nil _ _); (case side2 => exact Nat.le_refl _); rintro e w7 ⟨aD, rfl, ho0, hb⟩; refine ⟨_, rfl, ?_⟩; have an := rW0 ho0 HB; replace HB := xS HB hb; (try clear hb); (try clear hb2); (try clear hk); (try clear hi); (try clear ho0)))
    go_loopg [6, 27] k1 (fun kq v6 aA w' => ∃ (x6_2 : List Int) (aa : Int), aA = .int .i64 aa ∧ Aside0 (slices_Concat_int_int.l1 kq x6_2 l0 (l0.length : Int) aa = some r) ∧ Aside0 (kq ≤ k1) ∧ Aside0 (Kd.R (Kd.int .i64) 3 w' w.heap.size (fun _ => True) v6 x6_2) ∧ Aside0 (Below w.heap.size w w'))
    case atStart => exact ⟨(ag), (0), vv, H', ⟨Nat.le_refl _⟩, ⟨zR an.out⟩, ⟨zS HB.out⟩⟩
    case round =>
     clear H'
     try clear c2
     try clear al
     try clear p2
     try clear c3
     try clear av
     try clear p3
     try clear q3
     try clear hx3
     try clear c4
     try clear aw
     try clear c5
     try clear ax
     try clear p6
     try clear ad
     try clear af
     try clear q384
     obtain ⟨x6_2, aa, rfl, HA, HK2, ah, HB⟩ := hrel
     cases gk with
     | zero => exact absurd HA.out (by simp [slices_Concat_int_int.l1])
     | succ k2 =>
      have H := HA.out; clear HA; simp only [slices_Concat_int_int.l1] at H
      by_cases c8 : aa < (l0.length : Int)
      ·rw [if_pos c8] at H; have ay : decide (aa < (l0.length : Int)) = true := decide_eq_true c8; clear c8
       by_cases c9 : 0 ≤ aa
       ·rw [if_pos c9] at H; have aE : decide (0 ≤ aa) = true := decide_eq_true c9; clear c9
        by_cases aj : aa < (l0.length : Int)
        ·rw [if_pos aj] at H; have aC : decide (aa < (l0.length : Int)) = true := decide_eq_true aj; clear aj
         by_cases ak : x6_2.length + (rd_L2 l0 aa).length < 17592186044416
         ·rw [if_pos ak] at H; have LMc11 := Aside0.mk ak; clear ak; obtain ⟨am, ac⟩ : ∃ y_ : List Int, y_ = (x6_2 ++ (rd_L2 l0 aa)) := ⟨_, rfl⟩
          replace H : (slices_Concat_int_int.l1 k2 am l0 (l0.length : Int) (wrap64 (aa + 1))) = some r := by first | (rw [ac]; with_reducible exact H) | (have H2_ := (Option.bind_some _ _).symm.trans H; rw [ac]; with_reducible exact H2_) | (have H2_ := (Option.bind_some _ _).symm.trans H; with_reducible exact H2_) | with_reducible exact H | (rw [ac]; exact H) | exact H
          have ao := Aside0.mk ac; clear ac; have H' := Aside0.mk H; clear H; have ai : 0 ≤ (aa : Int) := oD; have q388 : aa < (l0.length : Int) := oD; obtain ⟨ad388, A388_0, c388_0, e388, ae, hl388_0, hi388_0⟩ := at_L2 HR0.out aa ai q388
          cases e388
          replace ae := ct_ HB ae; have HR388_0 := Aside0.mk hi388_0; have HC388_0 := Aside0.mk hl388_0; clear hi388_0 hl388_0; replace ai := eq_true ai; replace q388 := eq_true q388
          go_wp2_with (first | ((with_reducible refine gate_builtin (b := .append) (xs := #[.tmp 31, .tmp 32]) rfl ?_); at_builtin; refine Kd.R_append_rows (Kd.int .i64) (w0 := w) w.heap.size rfl (.tmp 31) (.tmp 32) 24 3 (.int .i64 0) 8 rfl Try.underlying24 info3 rfl (by decide) (by omega) u6 x6_2 (rd_L2 l0 aa) _ _ _ (fun _ => True) (fun _ => False) rfl rfl ?aO ?aR (fun _ _ h => h) (fun _ h => h.elim) ?aF ?aB ?aS ?aL ?_; (case aR => repeat (first | exact (Kd.C_below HR388_0.out HB.out) | (with_reducible refine Kd.C_alloc ?_ _) | (with_reducible refine Kd.C_drewN ?_ _) | (with_reducible refine Kd.C_drew ?_))); (case aB => exact (zS HB.out)); (case aF => exact (fun _ _ => trivial)); (case aO => exact (zR ah.out)); (case aS => exact (below_size (zS HB.out))); (case aL => have := LMc11.out; omega); intro aG aH ho hb hg hat; rw [← ao.out] at ho; have ar := Aside0.mk (hb); have au := Aside0.mk (ho); clear HB; clear ah; have HB := ar; have ap := au; clear ar au; clear ho hb hg hat))
          go_roundg k2
          case measure => have := HK1.out; have := HK2.out; omega
          case rel => exact ⟨(am), (wrap64 (aa + 1)), vv, H', ⟨by have := HK1.out; have := HK2.out; omega⟩, ⟨zR ap.out⟩, ⟨zS HB.out⟩⟩
         ·rw [if_neg ak] at H; exact absurd H (by simp)
        ·rw [if_neg aj] at H; exact absurd H (by simp)
       ·rw [if_neg c9] at H; exact absurd H (by simp)
      ·rw [if_neg c8] at H; have ay : decide (aa < (l0.length : Int)) = false := decide_eq_false c8; clear c8; obtain rfl := Option.some.inj H
       go_wp2
       go_ret; exact ⟨_, vw, by (with_reducible repeat (first | apply Kd.R_alloc | apply Kd.R_drewN | apply Kd.R_drew)); exact ah.out, zS HB.out⟩

section
open Go.Proofs.Ytiiioldjldghoaa.Short2.T
abbrev impl_WordCanon.bl0 : Array Bool := #[f, f, f, f, f, f, f, f]
abbrev impl_WordCanon.bl1 : Array Bool := #[t, f, f, f, f, f, f, f]
abbrev impl_WordCanon.bl2 : Array Bool := #[t, f, t, f, f, f, f, f]
abbrev impl_WordCanon.bl3 : Array Bool := #[t, t, t, f, f, f, f, f]
abbrev impl_WordCanon.bl4 : Array Bool := #[t, t, t, t, f, f, f, f]
abbrev impl_WordCanon.bl5 : Array Bool := #[t, t, t, t, t, f, f, f]
abbrev impl_WordCanon.bl6 : Array Bool := #[t, t, t, t, t, t, f, f]
abbrev impl_WordCanon.bl7 : Array Bool := #[t, t, t, t, t, t, t, f]
abbrev impl_WordCanon.bl8 : Array Bool := #[t, t, t, t, t, t, t, t]
abbrev impl_WordCanon.bl9 : Array Bool := #[f, f, f, f, f, f, f, f, f, f, f, f, f, f, f, f]
abbrev impl_WordCanon.bl10 : Array Bool := #[t, f, f, f, f, f, f, f, f, f, f, f, f, f, f, f]
abbrev impl_WordCanon.bl11 : Array Bool := #[t, t, f, f, f, f, f, f, f, f, f, f, f, f, f, f]
abbrev impl_WordCanon.bl12 : Array Bool := #[t, t, t, f, f, f, f, f, f, f, f, f, f, f, f, f]
abbrev impl_WordCanon.bl13 : Array Bool := #[t, t, t, t, f, f, f, f, f, f, f, f, f, f, f, f]
abbrev impl_WordCanon.bl14 : Array Bool := #[t, t, t, t, t, f, f, f, f, f, f, f, f, f, f, f]
abbrev impl_WordCanon.bl15 : Array Bool := #[t, t, t, t, t, t, f, f, f, f, f, f, f, f, f, f]
abbrev impl_WordCanon.bl16 : Array Bool := #[t, t, t, t, t, t, t, f, f, f, f, f, f, f, f, f]
abbrev impl_WordCanon.bl17 : Array Bool := #[t, t, t, t, t, t, t, t, f, f, f, f, f, f, f, f]
abbrev impl_WordCanon.bl18 : Array Bool := #[t, t, t, t, t, t, t, t, t, f, f, f, f, f, f, f]
abbrev impl_WordCanon.bl19 : Array Bool := #[t, t, t, t, t, t, t, t, t, f, t, f, f, f, f, f]
abbrev impl_WordCanon.bl20 : Array Bool := #[t, t, t, t, t, t, t, t, t, f, t, t, f, f, f, f]
abbrev impl_WordCanon.bl21 : Array Bool := #[t, t, t, t, t, t, t, t, t, f, t, t, t, f, f, f]
abbrev impl_WordCanon.bl22 : Array Bool := #[t, t, t, t, t, t, t, t, t, t, t, t, t, f, f, f]
abbrev impl_WordCanon.bl23 : Array Bool := #[t, t, t, t, t, t, t, t, t, t, t, t, t, t, f, f]
abbrev impl_WordCanon.bl24 : Array Bool := #[t, t, t, t, t, t, t, t, t, t, t, t, t, t, t, f]
abbrev impl_WordCanon.bl25 : Array Bool := #[t, t, t, t, t, t, t, t, t, t, t, t, t, t, t, t]
abbrev impl_WordCanon.bl26 : Array Bool := #[f, f, f, f, f, f, f, f, f]
abbrev impl_WordCanon.bl27 : Array Bool := #[t, f, f, f, f, f, f, f, f]
abbrev impl_WordCanon.bl28 : Array Bool := #[t, t, f, f, f, f, f, f, f]
abbrev impl_WordCanon.bl29 : Array Bool := #[t, t, t, f, f, f, f, f, f]
abbrev impl_WordCanon.bl30 : Array Bool := #[t, t, t, t, f, f, f, f, f]
abbrev impl_WordCanon.bl31 : Array Bool := #[t, t, t, t, t, f, f, f, f]
abbrev impl_WordCanon.bl32 : Array Bool := #[t, t, t, t, t, t, f, f, f]
abbrev impl_WordCanon.bl33 : Array Bool := #[t, t, t, t, t, t, t, f, f]
abbrev impl_WordCanon.bl34 : Array Bool := #[t, t, t, t, t, t, t, t, f]
abbrev impl_WordCanon.bl35 : Array Bool := #[t, t, t, t, t, t, t, t, t]
abbrev impl_WordCanon.bl36 : Array Bool := #[t, t, t, t, t, t, t, t, t, t, f, f, f, f, f, f]
abbrev impl_WordCanon.bl37 : Array Bool := #[t, t, t, t, t, t, t, t, t, t, t, f, f, f, f, f]
abbrev impl_WordCanon.bl38 : Array Bool := #[t, t, t, t, t, t, t, t, t, t, t, t, f, f, f, f]
end
/-! ### impl_WordCanon: function 10 -/
def impl_WordCanon.l0 : Nat → List Int → List Int → Int → Option (List Int × List Int)
 | 0, _, _, _ => none
 | k + 1, x3, x4, x5 => if (x3.length : Int) > 0 then (if 0 ≤ (wrap64 ((x3.length : Int) - 1)) then (if (wrap64 ((x3.length : Int) - 1)) < (x3.length : Int) then (if 0 ≤ x5 then (if x5 < (x4.length : Int) then (if (rd x3 (wrap64 ((x3.length : Int) - 1))) = (rd x4 x5) then (if (wrap64 ((x3.length : Int) - 1)) ≤ (x3.length : Int) then (if x5 ≤ (x4.length : Int) then ((slices_Concat_int_int.f k (([(x4.drop (x5 : Int).toNat), (x4.take (x5 : Int).toNat)] : List (List Int)))).bind fun t421 => (impl_WordCanon.l0 k (x3.take ((wrap64 ((x3.length : Int) - 1)) : Int).toNat) t421 x5)) else (none)) else (none)) else (some (x3, x4))) else (none)) else (none)) else (none)) else (none)) else (some (x3, x4))
def impl_WordCanon.f (k : Nat) (l0_0 : List Int) (l0_1 : List Int) : Option (List Int × List Int) := (impl_isRight.f k l0_0 l0_1).bind fun t394 => (if t394 = true then ((slices_Clone_int_int.f l0_0).bind fun t395 => ((impl_period.f k l0_1).bind fun t398 => (if 0 ≤ t398 then (if t398 ≤ (l0_1.length : Int) then ((slices_Clone_int_int.f (l0_1.take (t398 : Int).toNat)).bind fun t400 => (impl_WordCanon.l0 k t395 t400 (wrap64 ((t400.length : Int) - 1)))) else (none)) else (none)))) else (some (([] : List Int), ([] : List Int))))
theorem impl_WordCanon.mono_l : ∀ k, (∀ y0 y1 y2, LeO (impl_WordCanon.l0 k y0 y1 y2) (impl_WordCanon.l0 (k + 1) y0 y1 y2))
 | 0 => fun _ _ _ r h => by simp [impl_WordCanon.l0] at h
 | k + 1 => by
  have ih0 := impl_WordCanon.mono_l k
  ·intro y0 y1 y2
   unfold impl_WordCanon.l0
   repeat' first
   | (with_reducible exact ih0 _ _ _)
   | (with_reducible exact impl_isRight.mono _ _ _)
   | (with_reducible exact impl_period.mono _ _)
   | (with_reducible exact slices_Concat_int_int.mono _ _)
   | (with_reducible exact LeO.refl _)
   | (with_reducible exact LeO.none _)
   | (with_reducible refine LeO.ite ?_ ?_)
   | (with_reducible refine LeO.bind ?_ (fun _ => ?_))
   | exact ih0 _ _ _
   | exact impl_isRight.mono _ _ _
   | exact impl_period.mono _ _
   | exact slices_Concat_int_int.mono _ _
   | exact LeO.none _
   | refine LeO.ite ?_ ?_
   | refine LeO.bind ?_ (fun _ => ?_)
theorem impl_WordCanon.mono : ∀ a0 a1 k, LeO (impl_WordCanon.f k a0 a1) (impl_WordCanon.f (k + 1) a0 a1) := by
 intro a0 a1 k
 have ih0 := impl_WordCanon.mono_l k
 unfold impl_WordCanon.f
 repeat' first
   | (with_reducible exact ih0 _ _ _)
   | (with_reducible exact impl_isRight.mono _ _ _)
   | (with_reducible exact impl_period.mono _ _)
   | (with_reducible exact slices_Concat_int_int.mono _ _)
   | (with_reducible exact LeO.refl _)
   | (with_reducible exact LeO.none _)
   | (with_reducible refine LeO.ite ?_ ?_)
   | (with_reducible refine LeO.bind ?_ (fun _ => ?_))
   | exact ih0 _ _ _
   | exact impl_isRight.mono _ _ _
   | exact impl_period.mono _ _
   | exact slices_Concat_int_int.mono _ _
   | exact LeO.none _
   | refine LeO.ite ?_ ?_
   | refine LeO.bind ?_ (fun _ => ?_)
def impl_WordCanon.T4 : Bool × List (List Nat × List Nat) := (true, [([], []), ([0], [0]), ([], []), ([2], [2]), ([3], [3]), ([1, 4], [1, 4]), ([5, 4], [5]), ([6, 6, 0, 1, 2, 3, 4, 5, 6], [6])])
def impl_WordCanon.B4 : List Nat := [0, 1, 0, 4, 12, 31, 63, 127]
theorem impl_WordCanon.tab4 : rtab .any (opsOf Try.f10 4) = impl_WordCanon.T4 := by kernel_rfl
theorem impl_WordCanon.bits4 : waitsOk impl_WordCanon.T4.2 impl_WordCanon.B4 = true := by kernel_rfl
def impl_WordCanon.T6 : Bool × List (List Nat × List Nat) := (true, [([], []), ([0], [0]), ([1], [1]), ([2], [2]), ([3], [3]), ([3], [3]), ([5, 3], [3, 5]), ([6, 3], [3, 6]), ([4, 7, 3], [3, 4, 7]), ([8, 3], [3, 8]), ([3], [3]), ([3], [3]), ([10, 11, 3], [3, 10, 11]), ([12, 3], [3, 12]), ([9, 13, 3], [3, 9, 13]), ([3, 14], [3, 14])])
def impl_WordCanon.B6 : List Nat := [0, 1, 3, 7, 15, 15, 47, 111, 255, 511, 15, 15, 3087, 7183, 16383, 32767]
theorem impl_WordCanon.tab6 : rtab .any (opsOf Try.f10 6) = impl_WordCanon.T6 := by kernel_rfl
theorem impl_WordCanon.bits6 : waitsOk impl_WordCanon.T6.2 impl_WordCanon.B6 = true := by kernel_rfl
def impl_WordCanon.T8 : Bool × List (List Nat × List Nat) := (true, [([], []), ([], []), ([0, 1], [0, 1]), ([], []), ([], []), ([3, 4], [3, 4]), ([2, 5], [2, 5]), ([6], [6]), ([7, 7, 0, 1, 2, 3, 4, 5, 6, 7], [0, 3, 7])])
def impl_WordCanon.B8 : List Nat := [0, 0, 3, 0, 0, 24, 63, 127, 255]
theorem impl_WordCanon.tab8 : rtab .any (opsOf Try.f10 8) = impl_WordCanon.T8 := by kernel_rfl
theorem impl_WordCanon.bits8 : waitsOk impl_WordCanon.T8.2 impl_WordCanon.B8 = true := by kernel_rfl
open Go.Proofs.Ytiiioldjldghoaa.Short2 in
set_option maxHeartbeats 8000000 in
set_option maxRecDepth 100000 in
theorem impl_WordCanon.calls (k : Nat) (A0_0 : Option Addr) (c0_0 : Nat) (l0_0 : List Int) (A0_1 : Option Addr) (c0_1 : Nat) (l0_1 : List Int) (r1 : List Int) (r2 : List Int) (w : World) (hr0_0 : Kd.C (Kd.int .i64) w A0_0 l0_0.length l0_0) (hc0_0 : l0_0.length ≤ c0_0) (hr0_1 : Kd.C (Kd.int .i64) w A0_1 l0_1.length l0_1) (hc0_1 : l0_1.length ≤ c0_1) (h : impl_WordCanon.f k l0_0 l0_1 = some (r1, r2)) :
  Calls Try.prog 10 #[.agg #[.slice A0_0 l0_0.length c0_0, .slice A0_1 l0_1.length c0_1]] w fun e w' => ∃ v0_ v1_ : Value, e = .returned (.agg #[v0_, v1_]) ∧ Kd.R (Kd.int .i64) 3 w' w.heap.size (fun k_ => some k_ ≠ (v1_ : Value).ownBlock) v0_ r1 ∧ Kd.R (Kd.int .i64) 3 w' w.heap.size (fun k_ => some k_ ≠ (v0_ : Value).ownBlock) v1_ r2 ∧ Below w.heap.size w w' := by
 have hu26 := Try.underlying26; have HR0_0 := Aside0.mk hr0_0; have HC0_0 := Aside0.mk hc0_0; clear hr0_0 hc0_0; have HR0_1 := Aside0.mk hr0_1; have HC0_1 := Aside0.mk hc0_1; clear hr0_1 hc0_1; have HB := Aside0.mk (Below.refl w.heap.size w); have H : ((impl_isRight.f k l0_0 l0_1).bind fun aJ => (if aJ = true then ((slices_Clone_int_int.f l0_0).bind fun am => ((impl_period.f k l0_1).bind fun ac => (if 0 ≤ ac then (if ac ≤ (l0_1.length : Int) then ((slices_Clone_int_int.f (l0_1.take (ac : Int).toNat)).bind fun ad => (impl_WordCanon.l0 k am ad (wrap64 ((ad.length : Int) - 1)))) else (none)) else (none)))) else (some (([] : List Int), ([] : List Int))))) = some (r1, r2) := h; clear h; replace H := bI H; obtain ⟨aJ, bC, H⟩ := H; replace H : (if aJ = true then ((slices_Clone_int_int.f l0_0).bind fun am => ((impl_period.f k l0_1).bind fun ac => (if 0 ≤ ac then (if ac ≤ (l0_1.length : Int) then ((slices_Clone_int_int.f (l0_1.take (ac : Int).toNat)).bind fun ad => (impl_WordCanon.l0 k am ad (wrap64 ((ad.length : Int) - 1)))) else (none)) else (none)))) else (some (([] : List Int), ([] : List Int)))) = some (r1, r2) := H; have A2 := Aside0.mk bC; clear bC
 by_cases c3 : aJ = true
 ·subst c3
  have H1 : ((slices_Clone_int_int.f l0_0).bind fun am => ((impl_period.f k l0_1).bind fun ac => (if 0 ≤ ac then (if ac ≤ (l0_1.length : Int) then ((slices_Clone_int_int.f (l0_1.take (ac : Int).toNat)).bind fun ad => (impl_WordCanon.l0 k am ad (wrap64 ((ad.length : Int) - 1)))) else (none)) else (none)))) = some (r1, r2) := by rw [if_pos rfl] at H; exact H
  clear H; have H := H1; clear H1; replace H := bI H; obtain ⟨am, bD, H⟩ := H; replace H : ((impl_period.f k l0_1).bind fun ac => (if 0 ≤ ac then (if ac ≤ (l0_1.length : Int) then ((slices_Clone_int_int.f (l0_1.take (ac : Int).toNat)).bind fun ad => (impl_WordCanon.l0 k am ad (wrap64 ((ad.length : Int) - 1)))) else (none)) else (none))) = some (r1, r2) := H; have A4 := Aside0.mk bD; clear bD; replace H := bI H; obtain ⟨ac, bE, H⟩ := H; replace H : (if 0 ≤ ac then (if ac ≤ (l0_1.length : Int) then ((slices_Clone_int_int.f (l0_1.take (ac : Int).toNat)).bind fun ad => (impl_WordCanon.l0 k am ad (wrap64 ((ad.length : Int) - 1)))) else (none)) else (none)) = some (r1, r2) := H; have A5 := Aside0.mk bE; clear bE
  by_cases c6 : 0 ≤ ac
  ·rw [if_pos c6] at H; have bG := eq_true c6; have bH : decide (0 ≤ ac) = true := decide_eq_true c6; clear c6
   by_cases c7 : ac ≤ (l0_1.length : Int)
   ·rw [if_pos c7] at H; have bJ := eq_true c7; have bK : decide (ac ≤ (l0_1.length : Int)) = true := decide_eq_true c7; clear c7; replace H := bI H; obtain ⟨ad, bF, H⟩ := H; replace H : (impl_WordCanon.l0 k am ad (wrap64 ((ad.length : Int) - 1))) = some (r1, r2) := H; have A8 := Aside0.mk bF; clear bF; have H' := Aside0.mk H; clear H
    go_enter Try.func10, Try.ntmps10
    try go_wp2_with (first | ((with_reducible refine gate_dst (N := 1) rfl ?_); (try (refine gate_guard (by rfl) ?_; dsimp only)); refine bx_ 1 #[.slice A0_0 l0_0.length c0_0, .slice A0_1 l0_1.length c0_1] 26 ?_; intro ah hg w9 hbox hb; have aa := Aside0.mk (hbox); have bs := xG HB hg; have bt := xG HB hg; replace HB := xS HB hb; clear hb hbox hg) | ((with_reducible refine gate_dst (N := 2) rfl ?_); (try (refine gate_guard (by rfl) ?_; dsimp only)); refine bx_ 2 #[.slice none 0 0, .slice none 0 0] 26 ?_; intro ag hg cQ hbox hb; have ab := Aside0.mk (hbox); have bu := xG HB hg; have bv := xG HB hg; replace HB := xS HB hb; have aw := xN aa hg; have ax := xM aa hg; replace aa := xB aa hb; clear hb hbox hg; obtain ⟨cm, cn⟩ := nn aw; obtain ⟨aZ, ba, bb, bc⟩ := cz2 aa) | ((with_reducible refine gate_callee (f := 17) rfl ?_); refine gl_ (some 7) Try.func17 #[.agg #[.slice A0_0 l0_0.length c0_0, .slice A0_1 l0_1.length c0_1]] ?_; (with_reducible refine (impl_isRight.calls k _ _ l0_0 _ _ l0_1 true _ ?side1 ?side2 ?side3 ?side4 A2.out).mono ?_); (case side1 => exact zC (Kd.C_below HR0_0.out HB.out)); (case side2 => exact HC0_0.out); (case side3 => exact zC (Kd.C_below HR0_1.out HB.out)); (case side4 => exact HC0_1.out); rintro e cR ⟨rfl, hb⟩; refine ⟨_, rfl, ?_⟩; replace aa := xB aa hb; replace ab := xB ab hb; replace HB := xS HB hb; (try clear hb); (try clear hb2); (try clear hk); (try clear hi); obtain ⟨bd, be, bf, bg⟩ := cz2 aa) | ((with_reducible refine gate_callee (f := 24) rfl ?_); refine gl_ (some 12) Try.func24 #[.slice A0_0 l0_0.length c0_0] ?_; (with_reducible refine (slices_Clone_int_int.calls _ _ l0_0 am _ ?side1 ?side2 A4.out).mono ?_); (case side1 => exact zC (Kd.C_below HR0_0.out HB.out)); (case side2 => exact HC0_0.out); rintro e ci ⟨cG, rfl, ho0, hb⟩; refine ⟨_, rfl, ?_⟩; have ar := rW0 ho0 HB; replace aa := xB aa hb; replace ab := xB ab hb; replace HB := xS HB hb; (try clear hb); (try clear hb2); (try clear hk); (try clear hi); (try clear ho0)))
    replace ar := Aside0.mk (Kd.R_drew ar.out); replace aa := Aside0.mk (blk_drew aa.out); replace ab := Aside0.mk (blk_drew ab.out); replace HB := Aside0.mk (below_drew1 HB.out); refine start_ (n := 8) (S := fun w' => w'.cell? ⟨ah, 0, none⟩ = some (.slice A0_0 l0_0.length c0_0) ∧ w'.cell? ⟨ah, 1, none⟩ = some (.slice A0_1 l0_1.length c0_1)) (ds := []) bl0 (by kernel_rfl) rfl rfl ⟨b1 aa 0, b1 aa 1⟩ (fun hHeld => ?_); refine with_tabW impl_WordCanon.tab4 impl_WordCanon.bits4 (fun HT_ HW_ => ?_); generalize ci.drew = cS at ar aa ab HB hHeld ⊢
    refine pv_ 0 (some 13) bl1 HT_ ?_
    refine pv_ 2 (some 15) bl2 HT_ ?_
    refine tk_ 1 (some 14) bl3 HT_ HW_ hHeld ?_
    refine tk_ 3 (some 16) bl4 HT_ HW_ hHeld ?_
    refine on_ 4 (some 17) bl5 HT_ (fun K hK => ?_); refine gs_ Try.func25 #[.slice A0_1 l0_1.length c0_1] ?_
    with_reducible refine (impl_period.calls k _ _ l0_1 ac _ ?side1 ?side2 A5.out).mono ?_
    (case side1 => exact zC (Kd.C_below HR0_1.out HB.out))
    (case side2 => exact HC0_1.out)
    rintro e w' ⟨rfl, ⟨nd, rfl⟩⟩; refine ⟨_, rfl, ?_⟩; obtain ⟨i017, hi017, _, hsz17, _⟩ := info_parts info3; obtain ⟨hcut17, hA17, hC17⟩ := print_take_of (P := Try.prog) (Value.int .i64) 0 24 3 .i64 Try.underlying24 hi017 hsz17 A0_1 c0_1 l0_1 ac (oD) (oD) HC0_1.out; have HR399 := Aside0.mk (Kd.C_of_reads (h1 := fun _ => rfl) (hA17 _ (Kd.reads_of_C HR0_1.out))); have HC399 := Aside0.mk hC17; clear hA17 hC17 hi017 hsz17; refine hK.out _ _ ⟨b1 aa 0, b1 aa 1⟩ (fun hHeld => ?_); clear hK K; refine nr_ (some 17) ?_
    refine pv_ 5 (some 18) bl6 HT_ ?_
    refine on_ 6 (some 19) bl7 HT_ (fun K hK => ?_); refine goes_ Try.func24 (by kernel_rfl) rfl #[.slice A0_1 (l0_1.take (ac : Int).toNat).length c0_1] (by rfl) rfl rfl (by (try simp only [m3]); first | done | (rw [show (l0_1.take (ac : Int).toNat).length = ac.toNat from (by rw [List.length_take]; have h_ : (ac : Int) ≤ (l0_1.length : Int) := oD; omega)] <;> rfl) | rfl | (simp only [d2]; rfl)) ?_
    with_reducible refine (slices_Clone_int_int.calls _ _ (l0_1.take (ac : Int).toNat) ad _ ?side1 ?side2 A8.out).mono ?_
    (case side1 => repeat (first | exact (Kd.C_below HR399.out (zS HB.out)) | (with_reducible refine Kd.C_alloc ?_ _) | (with_reducible refine Kd.C_drewN ?_ _) | (with_reducible refine Kd.C_drew ?_)))
    (case side2 => exact HC399.out)
    rintro e cU ⟨cH, rfl, ho0, hb⟩; refine ⟨_, rfl, ?_⟩; have aO := rW1 ho0 ar HB; replace ar := xE ar ho0 hb; replace aa := xB aa hb; replace ab := xB ab hb; replace HB := xS HB hb
    (try clear hb)
    (try clear hb2)
    (try clear hk)
    (try clear hi)
    (try clear ho0)
    refine hK.out _ _ ⟨b1 aa 0, b1 aa 1⟩ (fun hHeld => ?_); clear hK K; refine nr_ (some 19) ?_
    refine pv_ 7 (some 4) bl8 HT_ ?_
    refine done_ (done_of HT_.out (by kernel_rfl)) ?_; obtain ⟨cI, cJ, bL⟩ := Kd.R_slice aO.out; subst bL
    try go_wp2
    go_loopg [3, 4] k (fun kq v3 v4 w' => ∃ (x3_1 : List Int) (x4_1 : List Int), Aside0 (impl_WordCanon.l0 kq x3_1 x4_1 (wrap64 ((ad.length : Int) - 1)) = some (r1, r2)) ∧ Aside0 (kq ≤ k) ∧ Aside0 (Kd.R (Kd.int .i64) 3 w' w.heap.size (fun k_ => some k_ ≠ (v4 : Value).ownBlock) v3 x3_1) ∧ Aside0 (Kd.R (Kd.int .i64) 3 w' w.heap.size (fun k_ => some k_ ≠ (v3 : Value).ownBlock) v4 x4_1) ∧ Aside0 (w'.heap[ah]? = some (.cells #[(.slice A0_0 l0_0.length c0_0), (.slice A0_1 l0_1.length c0_1)] 26 (0, 0))) ∧ Aside0 (w'.heap[ag]? = some (.cells #[(.slice none 0 0), (.slice none 0 0)] 26 (0, 0))) ∧ Aside0 (Below w.heap.size w w'))
    case atStart => exact ⟨(am), (ad), H', ⟨Nat.le_refl _⟩, ⟨rM ar (fun _ hk => hk.2)⟩, ⟨rM aO (fun _ hk => hk.2)⟩, ⟨zB aa.out⟩, ⟨zB ab.out⟩, ⟨zS HB.out⟩⟩
    case round =>
     clear H'
     try clear c1
     try clear c2
     try clear p2
     try clear c3
     try clear c6
     try clear bG
     try clear bH
     try clear p6
     try clear c7
     try clear bJ
     try clear bK
     try clear cV
     try clear cW
     try clear cX
     try clear aZ ba
     try clear bd be
     try clear bb
     try clear bc
     try clear bf
     try clear bg
     obtain ⟨x3_1, x4_1, HA, HK1, af, ae, aa, ab, HB⟩ := hrel
     cases gk with
     | zero => exact absurd HA.out (by simp [impl_WordCanon.l0])
     | succ k1 =>
      have H := HA.out; clear HA; simp only [impl_WordCanon.l0] at H
      by_cases aI : (x3_1.length : Int) > 0
      ·rw [if_pos aI] at H; have bw : decide (0 < (x3_1.length : Int)) = true := decide_eq_true aI; have bx : decide (0 < x3_1.length) = true := decide_eq_true (by omega); clear aI; obtain ⟨ji21, hji21⟩ : ∃ j_ : Int, (wrap64 ((x3_1.length : Int) - 1)) = j_ := ⟨_, rfl⟩
       replace H : (if 0 ≤ (ji21) then (if (ji21) < (x3_1.length : Int) then (if 0 ≤ (wrap64 ((ad.length : Int) - 1)) then (if (wrap64 ((ad.length : Int) - 1)) < (x4_1.length : Int) then (if (rd x3_1 (ji21)) = (rd x4_1 (wrap64 ((ad.length : Int) - 1))) then (if (ji21) ≤ (x3_1.length : Int) then (if (wrap64 ((ad.length : Int) - 1)) ≤ (x4_1.length : Int) then ((slices_Concat_int_int.f k1 (([(x4_1.drop ((wrap64 ((ad.length : Int) - 1)) : Int).toNat), (x4_1.take ((wrap64 ((ad.length : Int) - 1)) : Int).toNat)] : List (List Int)))).bind fun ai => (impl_WordCanon.l0 k1 (x3_1.take ((ji21) : Int).toNat) ai (wrap64 ((ad.length : Int) - 1)))) else (none)) else (none)) else (some (x3_1, x4_1))) else (none)) else (none)) else (none)) else (none)) = some (r1, r2) := by first | (rw [hji21] at H; exact H) | (simp only [hji21] at H ⊢; exact H)
       have hji21w : (IntKind.i64.wrap ((x3_1.length : Int) - 1)) = ji21 := (i64_w _).trans hji21
       by_cases aP : 0 ≤ (ji21)
       ·rw [if_pos aP] at H; have co : decide (0 ≤ (ji21)) = true := decide_eq_true aP; clear aP
        by_cases aQ : (ji21) < (x3_1.length : Int)
        ·rw [if_pos aQ] at H; have cp : decide ((ji21) < (x3_1.length : Int)) = true := decide_eq_true aQ; clear aQ; obtain ⟨ji24, hji24⟩ : ∃ j_ : Int, (wrap64 ((ad.length : Int) - 1)) = j_ := ⟨_, rfl⟩
         replace H : (if 0 ≤ (ji24) then (if (ji24) < (x4_1.length : Int) then (if (rd x3_1 (ji21)) = (rd x4_1 (ji24)) then (if (ji21) ≤ (x3_1.length : Int) then (if (ji24) ≤ (x4_1.length : Int) then ((slices_Concat_int_int.f k1 (([(x4_1.drop ((ji24) : Int).toNat), (x4_1.take ((ji24) : Int).toNat)] : List (List Int)))).bind fun ai => (impl_WordCanon.l0 k1 (x3_1.take ((ji21) : Int).toNat) ai (ji24))) else (none)) else (none)) else (some (x3_1, x4_1))) else (none)) else (none)) = some (r1, r2) := by first | (rw [hji24] at H; exact H) | (simp only [hji24] at H ⊢; exact H)
         have hji24w : (IntKind.i64.wrap ((ad.length : Int) - 1)) = ji24 := (i64_w _).trans hji24
         by_cases aR : 0 ≤ (ji24)
         ·rw [if_pos aR] at H; have cq : decide (0 ≤ (ji24)) = true := decide_eq_true aR; clear aR
          by_cases aS : (ji24) < (x4_1.length : Int)
          ·rw [if_pos aS] at H; have cr : decide ((ji24) < (x4_1.length : Int)) = true := decide_eq_true aS; clear aS
           by_cases aG : (rd x3_1 (ji21)) = (rd x4_1 (ji24))
           ·rw [if_pos aG] at H; have bz : ((rd x3_1 (ji21)) == (rd x4_1 (ji24))) = true := beq_iff_eq.mpr aG; have bA : ((rd x3_1 (ji21)) != (rd x4_1 (ji24))) = false := bne_eq_false_iff_eq.mpr aG; clear aG
            by_cases aK : (ji21) ≤ (x3_1.length : Int)
            ·rw [if_pos aK] at H; have ct := eq_true aK; have cu : decide ((ji21) ≤ (x3_1.length : Int)) = true := decide_eq_true aK; clear aK; obtain ⟨aj, aB⟩ : ∃ y_ : List Int, y_ = (x3_1.take ((ji21) : Int).toNat) := ⟨_, rfl⟩
             replace H : (if (ji24) ≤ (x4_1.length : Int) then ((slices_Concat_int_int.f k1 (([(x4_1.drop ((ji24) : Int).toNat), (x4_1.take ((ji24) : Int).toNat)] : List (List Int)))).bind fun ai => (impl_WordCanon.l0 k1 aj ai (ji24))) else (none)) = some (r1, r2) := by first | (rw [aB]; with_reducible exact H) | (have H2_ := (Option.bind_some _ _).symm.trans H; rw [aB]; with_reducible exact H2_) | (have H2_ := (Option.bind_some _ _).symm.trans H; with_reducible exact H2_) | with_reducible exact H | (rw [aB]; exact H) | exact H
             have aT := Aside0.mk aB; clear aB; have cv := eq_true (oD : 0 ≤ (ji24))
             by_cases aL : (ji24) ≤ (x4_1.length : Int)
             ·rw [if_pos aL] at H; have cw := eq_true aL; have cx : decide ((ji24) ≤ (x4_1.length : Int)) = true := decide_eq_true aL; clear aL; obtain ⟨ak, aC⟩ : ∃ y_ : List Int, y_ = (x4_1.drop ((ji24) : Int).toNat) := ⟨_, rfl⟩
              replace H : ((slices_Concat_int_int.f k1 (([ak, (x4_1.take ((ji24) : Int).toNat)] : List (List Int)))).bind fun ai => (impl_WordCanon.l0 k1 aj ai (ji24))) = some (r1, r2) := by first | (rw [aC]; with_reducible exact H) | (have H2_ := (Option.bind_some _ _).symm.trans H; rw [aC]; with_reducible exact H2_) | (have H2_ := (Option.bind_some _ _).symm.trans H; with_reducible exact H2_) | with_reducible exact H | (rw [aC]; exact H) | exact H
              have aU := Aside0.mk aC; clear aC; have cy := eq_true (oD : 0 ≤ (ji24)); have cz := eq_true (oD : (ji24) ≤ (x4_1.length : Int)); obtain ⟨ao, aD⟩ : ∃ y_ : List Int, y_ = (x4_1.take ((ji24) : Int).toNat) := ⟨_, rfl⟩
              replace H : ((slices_Concat_int_int.f k1 (([ak, ao] : List (List Int)))).bind fun ai => (impl_WordCanon.l0 k1 aj ai (ji24))) = some (r1, r2) := by first | (rw [aD]; with_reducible exact H) | (have H2_ := (Option.bind_some _ _).symm.trans H; rw [aD]; with_reducible exact H2_) | (have H2_ := (Option.bind_some _ _).symm.trans H; with_reducible exact H2_) | with_reducible exact H | (rw [aD]; exact H) | exact H
              have aV := Aside0.mk aD; clear aD; obtain ⟨aM, aE⟩ : ∃ y_ : List (List Int), y_ = (([ak, ao] : List (List Int))) := ⟨_, rfl⟩
              replace H : ((slices_Concat_int_int.f k1 aM).bind fun ai => (impl_WordCanon.l0 k1 aj ai (ji24))) = some (r1, r2) := by first | (rw [aE]; with_reducible exact H) | (have H2_ := (Option.bind_some _ _).symm.trans H; rw [aE]; with_reducible exact H2_) | (have H2_ := (Option.bind_some _ _).symm.trans H; with_reducible exact H2_) | with_reducible exact H | (rw [aE]; exact H) | exact H
              have aW := Aside0.mk aE; clear aE; replace H := bI H; obtain ⟨ai, bh, H⟩ := H; replace H : (impl_WordCanon.l0 k1 aj ai (ji24)) = some (r1, r2) := H; have cj := Aside0.mk bh; clear bh; have H' := Aside0.mk H; clear H
              try go_wp2
              replace af := Aside0.mk (Kd.R_drew af.out); replace ae := Aside0.mk (Kd.R_drew ae.out); replace aa := Aside0.mk (blk_drew aa.out); replace ab := Aside0.mk (blk_drew ab.out); replace HB := Aside0.mk (below_drew1 HB.out); obtain ⟨cK, ay, bi⟩ := Kd.R_slice af.out
              (first | subst bi | (injection bi with f1_ f2_ f3_; have f4_ := f1_.symm; have f5_ := f3_.symm; clear f1_ f2_ f3_; subst f4_; subst f5_))
              have az : 0 ≤ ((ji21) : Int) := oD; have q403 : (ji21) < (x3_1.length : Int) := oD; obtain ⟨ad403, e403, ap⟩ := Kd.at_int (Kd.R_reads' af.out).2.2 (ji21) az q403
              cases e403
              replace az := eq_true az; replace q403 := eq_true q403; obtain ⟨cL, an, bj⟩ := Kd.R_slice ae.out
              (first | subst bj | (injection bj with f1_ f2_ f3_; have f4_ := f1_.symm; have f5_ := f3_.symm; clear f1_ f2_ f3_; subst f4_; subst f5_))
              have aA : 0 ≤ ((ji24) : Int) := oD; have q404 : (ji24) < (x4_1.length : Int) := oD; obtain ⟨ad404, e404, aq⟩ := Kd.at_int (Kd.R_reads' ae.out).2.2 (ji24) aA q404
              cases e404
              replace aA := eq_true aA; replace q404 := eq_true q404; refine start_ (n := 16) (S := fun w' => w'.cell? (ad403.add ((ji21)).toNat) = some (.int .i64 (rd x3_1 (ji21))) ∧ w'.cell? (ad404.add ((ji24)).toNat) = some (.int .i64 (rd x4_1 (ji24)))) (ds := []) bl9 (by kernel_rfl) rfl rfl ⟨ap, aq⟩ (fun hHeld => ?_); refine with_tabW impl_WordCanon.tab6 impl_WordCanon.bits6 (fun HT_ HW_ => ?_); generalize wr.drew = ck at af ae aa ab HB ap aq hHeld ⊢
              refine pv_ 0 (some 23) bl10 HT_ ?_
              refine pv_ 1 (some 24) bl11 HT_ ?_
              refine pv_ 2 (some 25) bl12 HT_ ?_
              refine pv_ 3 (some 26) bl13 HT_ ?_
              refine pv_ 4 (some 27) bl14 HT_ ?_
              refine pv_ 5 (some 28) bl15 HT_ ?_
              refine pv_ 6 (some 29) bl16 HT_ ?_
              refine pv_ 7 (some 30) bl17 HT_ ?_
              refine pv_ 8 (some 31) bl18 HT_ ?_
              refine pv_ 10 (some 33) bl19 HT_ ?_
              refine pv_ 11 (some 34) bl20 HT_ ?_
              refine pv_ 12 (some 35) bl21 HT_ ?_
              refine tk_ 9 (some 32) bl22 HT_ HW_ hHeld ?_
              refine tk_ 13 (some 36) bl23 HT_ HW_ hHeld ?_
              refine pv_ 14 (some 37) bl24 HT_ ?_
              refine pv_ 15 (some 38) bl25 HT_ ?_
              refine done_ (done_of HT_.out (by kernel_rfl)) ?_; have q37 : ((ji21) : Int) ≤ ((x3_1.length : Int) : Int) := oD; obtain ⟨i037, hi037, _, hsz37, _⟩ := info_parts info3; have hcut37 := cut_to (P := Try.prog) 24 3 .i64 Try.underlying24 hi037 (some ad403) x3_1.length ay (ji21) (oD) q37 (Kd.R_reads' af.out).2.1; have hr37 := Kd.R_take (m := ((ji21) : Int).toNat) af.out (by omega); have bk : aj.length = ((ji21) : Int).toNat := (by rw [aT.out, List.length_take]; omega); rw [← aT.out] at hr37; rw [← bk] at hr37 hcut37; clear bk hi037 hsz37 af; have al := Aside0.mk hr37; clear hr37; replace q37 := eq_true q37
              try go_wp2
              replace al := Aside0.mk (Kd.R_drew al.out); replace ae := Aside0.mk (Kd.R_drew ae.out); replace aa := Aside0.mk (blk_drew aa.out); replace ab := Aside0.mk (blk_drew ab.out); replace HB := Aside0.mk (below_drew1 HB.out); have q39 : ((ji24) : Int) ≤ ((x4_1.length : Int) : Int) := oD; obtain ⟨i039, hi039, _, hsz39, _⟩ := info_parts info3; have hroom39 : x4_1.length ≤ an := (Kd.R_reads' ae.out).2.1; have hC39 : Kd.F (Kd.int .i64) _ _ (some ad404) x4_1.length x4_1 := (Kd.V_at (base := w.heap.size) (Kd.R_V (Kd.R_types (Kd.R_types (ae.out) aa.out (by decide)) ab.out (by decide)))).2.2; have q039 : (0 : Int) ≤ ((ji24) : Int) := oD; have hcut39 := cut_from (P := Try.prog) 24 3 .i64 Try.underlying24 hi039 1 hsz39 (some ad404) x4_1.length an (ji24) q039 q39; have hr39 := Kd.F_cut (m := ((ji24) : Int).toNat) (c := an) hC39 (by omega) hroom39; obtain ⟨aX, hA39⟩ : ∃ A1, A1 = (if an = ((ji24) : Int).toNat then (some ad404) else ((some ad404) : Option Addr).map (·.add (((ji24) : Int).toNat * 1))) := ⟨_, rfl⟩; obtain ⟨aY, hc39⟩ : ∃ c1, c1 = an - ((ji24) : Int).toNat := ⟨_, rfl⟩; have aH : ak.length = x4_1.length - ((ji24) : Int).toNat := (by rw [aU.out, List.length_drop] <;> omega); rw [show (x4_1).drop ((ji24) : Int).toNat = ak from aU.out.symm] at hr39; replace hr39 : Kd.F (Kd.int .i64) _ _ aX ak.length ak := (by rw [hA39]; exact hr39); rw [← aH, ← hA39, ← hc39] at hcut39; have au := Aside0.mk (show Kd.V (Kd.int .i64) 3 _ w.heap.size _ (.slice aX ak.length aY) ak from Kd.V_mk (by rw [aH, hc39]; exact Nat.sub_le_sub_right hroom39 _) hr39); have HC412 := Aside0.mk (show ak.length ≤ aY from by rw [aH, hc39]; exact Nat.sub_le_sub_right hroom39 _); clear hr39 hC39 hroom39 hi039 hsz39 hc39; have KY39 := Aside0.mk aH; have KA39 := Aside0.mk hA39; clear aH hA39; replace q39 := eq_true q39; have q40 : ((ji24) : Int) ≤ ((x4_1.length : Int) : Int) := oD; obtain ⟨i040, hi040, _, hsz40, _⟩ := info_parts info3; have hroom40 : x4_1.length ≤ an := (Kd.R_reads' ae.out).2.1; have hC40 : Kd.F (Kd.int .i64) _ _ (some ad404) x4_1.length x4_1 := (Kd.V_at (base := w.heap.size) (Kd.R_V (Kd.R_types (Kd.R_types (ae.out) aa.out (by decide)) ab.out (by decide)))).2.2; have hcut40 := cut_to (P := Try.prog) 24 3 .i64 Try.underlying24 hi040 (some ad404) x4_1.length an (ji24) (oD) q40 hroom40; have hr40 := Kd.F_take (m := ((ji24) : Int).toNat) hC40 (by omega); have aN : ao.length = ((ji24) : Int).toNat := (by rw [aV.out, List.length_take]; omega); rw [← aV.out] at hr40; rw [← aN] at hcut40
              have av := Aside0.mk (show Kd.V (Kd.int .i64) 3 _ w.heap.size _ (.slice (some ad404) ao.length an) ao from Kd.V_mk (by omega) hr40); have HC417 := Aside0.mk (show ao.length ≤ an from by omega); clear hr40 hC40 hroom40 hi040 hsz40; have KY40 := Aside0.mk aN; clear aN; replace q40 := eq_true q40; refine start_ (n := 9) (S := fun w' => True) (ds := []) bl26 (by kernel_rfl) rfl rfl trivial (fun hHeld => ?_); refine with_tabW impl_WordCanon.tab8 impl_WordCanon.bits8 (fun HT_ HW_ => ?_); generalize ck.drew = cl at al ae aa ab HB au av hHeld ⊢
              refine pv_ 0 (some 44) bl27 HT_ ?_
              refine pv_ 1 (some 45) bl28 HT_ ?_
              refine pv_ 2 (some 46) bl29 HT_ ?_
              refine pv_ 3 (some 47) bl30 HT_ ?_
              refine pv_ 4 (some 48) bl31 HT_ ?_
              refine pv_ 5 (some 49) bl32 HT_ ?_
              refine on_ 6 (some 50) bl33 HT_ (fun K hK => ?_)
              refine Kd.N_lit_step (Kd.slice 3 (Kd.int .i64)) _ 24 ?hg (N' := 50) ?hd (xs := ([ak, ao] : List (List Int))) (inner := [.slice aX ak.length aY, .slice (some ad404) ao.length an]) (ok := (fun k_ => some k_ ≠ (.slice (some ad403) aj.length ay : Value).ownBlock ∧ k_ ≠ ah ∧ k_ ≠ ag)) (okp := (fun k_ => some k_ ≠ (.slice (some ad403) aj.length ay : Value).ownBlock ∧ k_ ≠ ah ∧ k_ ≠ ag)) ?hr ?hp (fun _ hk => hk) ((show ∀ k_, cl.heap.size ≤ k_ → (fun k_ => some k_ ≠ (.slice (some ad403) aj.length ay : Value).ownBlock ∧ k_ ≠ ah ∧ k_ ≠ ag) k_ from fun k_ hk => ⟨Kd.fresh' (Kd.R_lt (zR al.out)) k_ hk, Kd.freshB (g := ah) (o := .cells #[.slice A0_0 l0_0.length c0_0, .slice A0_1 l0_1.length c0_1] 26 (0, 0)) (zB aa.out) k_ hk, Kd.freshB (g := ag) (o := .cells #[.slice none 0 0, .slice none 0 0] 26 (0, 0)) (zB ab.out) k_ hk⟩) _ (Nat.le_refl _)) (Below.refl _ _) (Nat.le_refl _) (by simp) ?_; (case hd => rfl); (case hg => rfl); (case hr => first | (go_simp; done) | (go_simp; rfl)); (case hp => exact (Reps.one (show Kd.FK (Kd.slice 3 (Kd.int .i64)) _ _ ak [.slice aX ak.length aY] from (Kd.FK_slice_mk (Kd.V_reads' (Kd.V_mono (ok' := (fun k_ => some k_ ≠ (.slice (some ad403) aj.length ay : Value).ownBlock ∧ k_ ≠ ah ∧ k_ ≠ ag)) (au.out) (fun k_ hk => ⟨hk.1.1, ⟨hk.1.2, hk.2⟩⟩))).2.1 (Kd.V_F (Kd.V_mono (ok' := (fun k_ => some k_ ≠ (.slice (some ad403) aj.length ay : Value).ownBlock ∧ k_ ≠ ah ∧ k_ ≠ ag)) (au.out) (fun k_ hk => ⟨hk.1.1, ⟨hk.1.2, hk.2⟩⟩))))) (Reps.one (show Kd.FK (Kd.slice 3 (Kd.int .i64)) _ _ ao [.slice (some ad404) ao.length an] from (Kd.FK_slice_mk (Kd.V_reads' (Kd.V_mono (ok' := (fun k_ => some k_ ≠ (.slice (some ad403) aj.length ay : Value).ownBlock ∧ k_ ≠ ah ∧ k_ ≠ ag)) (av.out) (fun k_ hk => ⟨hk.1.1, ⟨hk.1.2, hk.2⟩⟩))).2.1 (Kd.V_F (Kd.V_mono (ok' := (fun k_ => some k_ ≠ (.slice (some ad403) aj.length ay : Value).ownBlock ∧ k_ ≠ ah ∧ k_ ≠ ag)) (av.out) (fun k_ hk => ⟨hk.1.1, ⟨hk.1.2, hk.2⟩⟩))))) (Reps.none _ _))))
              intro cM cY ho42 hb hg_ hnew_; clear hg_ hnew_
              (first | rw [← aW.out] at ho42 | (simp only [Int.reduceToNat] at ho42; rw [← aW.out] at ho42))
              replace al := xR al hb; replace ae := xR ae hb; replace au := Aside0.mk (Kd.V_elder' (by (with_reducible repeat (first | apply Kd.V_alloc | apply Kd.V_drewN | apply Kd.V_drew)); exact au.out) (Kd.N_base ho42) hb); replace av := Aside0.mk (Kd.V_elder' (by (with_reducible repeat (first | apply Kd.V_alloc | apply Kd.V_drewN | apply Kd.V_drew)); exact av.out) (Kd.N_base ho42) hb); have aF := Aside0.mk (Kd.N_lower ho42 (below_size (zS HB.out))); replace aa := xB aa hb; replace ab := xB ab hb; replace HB := xS HB hb; clear hb ho42; obtain ⟨bM, bN, bl⟩ := Kd.N_slice aF.out
              (first | subst bl | (injection bl with f1_ f2_ f3_; have f4_ := f1_.symm; have f5_ := f3_.symm; clear f1_ f2_ f3_; subst f4_; subst f5_))
              refine hK.out _ _ trivial (fun hHeld => ?_); clear hK K; refine nr_ (some 50) ?_
              refine on_ 7 (some 51) bl34 HT_ (fun K hK => ?_); refine gs_ Try.func26 #[.slice bM aM.length bN] ?_
              with_reducible refine (slices_Concat_int_int.calls k1 _ _ aM ai _ ?side1 ?side2 cj.out).mono ?_
              (case side1 => exact zC (Kd.N_reads' aF.out).2.2)
              (case side2 => exact (Kd.N_reads' aF.out).2.1)
              rintro e cZ ⟨cN, rfl, ho0, hb⟩; refine ⟨_, rfl, ?_⟩; replace au := Aside0.mk (Kd.V_elder' (by (with_reducible repeat (first | apply Kd.V_alloc | apply Kd.V_drewN | apply Kd.V_drew)); exact au.out) (Kd.R_base ho0) hb); replace av := Aside0.mk (Kd.V_elder' (by (with_reducible repeat (first | apply Kd.V_alloc | apply Kd.V_drewN | apply Kd.V_drew)); exact av.out) (Kd.R_base ho0) hb); replace aF := Aside0.mk (Kd.N_elder' (by (with_reducible repeat (first | apply Kd.N_alloc | apply Kd.N_drewN | apply Kd.N_drew)); exact aF.out) (Kd.R_base ho0) hb); have bB := rW2 ho0 al ae HB; replace al := xE al ho0 hb; replace ae := xE ae ho0 hb; replace aa := xB aa hb; replace ab := xB ab hb; replace HB := xS HB hb
              (try clear hb)
              (try clear hb2)
              (try clear hk)
              (try clear hi)
              (try clear ho0)
              refine hK.out _ _ trivial (fun hHeld => ?_); clear hK K; refine nr_ (some 51) ?_
              refine pv_ 8 (some 4) bl35 HT_ ?_
              refine done_ (done_of HT_.out (by kernel_rfl)) ?_
              try go_wp2
              (first | go_roundg k1 | ((try simp only [← hji21]); (try simp only [← hji24]); go_roundg k1))
              case measure => have := HK1.out; omega
              case rel => exact ⟨(aj), (ai), (by first | exact H' | (have h_ := H'; (try simp only [← hji21] at h_); (try simp only [← hji21]); (try simp only [← hji24] at h_); (try simp only [← hji24]); exact h_)), ⟨by have := HK1.out; omega⟩, ⟨rM al (fun _ hk => hk.2)⟩, ⟨rM bB (fun _ hk => hk.1.2)⟩, ⟨zB aa.out⟩, ⟨zB ab.out⟩, ⟨zS HB.out⟩⟩
             ·rw [if_neg aL] at H; exact absurd H (by simp)
            ·rw [if_neg aK] at H; exact absurd H (by simp)
           ·rw [if_neg aG] at H; have bz : ((rd x3_1 (ji21)) == (rd x4_1 (ji24))) = false := beq_eq_false_iff_ne.mpr aG; have bA : ((rd x3_1 (ji21)) != (rd x4_1 (ji24))) = true := bne_iff_ne.mpr aG; simp only [Option.some.injEq, Prod.mk.injEq] at H; obtain ⟨rfl, rfl⟩ := H
            try go_wp2
            replace af := Aside0.mk (Kd.R_drew af.out); replace ae := Aside0.mk (Kd.R_drew ae.out); replace aa := Aside0.mk (blk_drew aa.out); replace ab := Aside0.mk (blk_drew ab.out); replace HB := Aside0.mk (below_drew1 HB.out); obtain ⟨cO, bm, bn⟩ := Kd.R_slice af.out
            (first | subst bn | (injection bn with f1_ f2_ f3_; have f4_ := f1_.symm; have f5_ := f3_.symm; clear f1_ f2_ f3_; subst f4_; subst f5_))
            have az : 0 ≤ ((ji21) : Int) := oD; have q403 : (ji21) < (x3_1.length : Int) := oD; obtain ⟨ad403, e403, ap⟩ := Kd.at_int (Kd.R_reads' af.out).2.2 (ji21) az q403
            cases e403
            replace az := eq_true az; replace q403 := eq_true q403; obtain ⟨cP, bO, bo⟩ := Kd.R_slice ae.out
            (first | subst bo | (injection bo with f1_ f2_ f3_; have f4_ := f1_.symm; have f5_ := f3_.symm; clear f1_ f2_ f3_; subst f4_; subst f5_))
            have aA : 0 ≤ ((ji24) : Int) := oD; have q404 : (ji24) < (x4_1.length : Int) := oD; obtain ⟨ad404, e404, aq⟩ := Kd.at_int (Kd.R_reads' ae.out).2.2 (ji24) aA q404
            cases e404
            replace aA := eq_true aA; replace q404 := eq_true q404; refine start_ (n := 16) (S := fun w' => w'.cell? (ad403.add ((ji21)).toNat) = some (.int .i64 (rd x3_1 (ji21))) ∧ w'.cell? (ad404.add ((ji24)).toNat) = some (.int .i64 (rd x4_1 (ji24)))) (ds := []) bl9 (by kernel_rfl) rfl rfl ⟨ap, aq⟩ (fun hHeld => ?_); refine with_tabW impl_WordCanon.tab6 impl_WordCanon.bits6 (fun HT_ HW_ => ?_); generalize wr.drew = da at af ae aa ab HB ap aq hHeld ⊢
            refine pv_ 0 (some 23) bl10 HT_ ?_
            refine pv_ 1 (some 24) bl11 HT_ ?_
            refine pv_ 2 (some 25) bl12 HT_ ?_
            refine pv_ 3 (some 26) bl13 HT_ ?_
            refine pv_ 4 (some 27) bl14 HT_ ?_
            refine pv_ 5 (some 28) bl15 HT_ ?_
            refine pv_ 6 (some 29) bl16 HT_ ?_
            refine pv_ 7 (some 30) bl17 HT_ ?_
            refine pv_ 8 (some 31) bl18 HT_ ?_
            refine pv_ 10 (some 33) bl19 HT_ ?_
            refine pv_ 11 (some 34) bl20 HT_ ?_
            refine pv_ 12 (some 35) bl21 HT_ ?_
            refine tk_ 9 (some 32) bl22 HT_ HW_ hHeld ?_
            refine tk_ 13 (some 36) bl23 HT_ HW_ hHeld ?_
            refine pv_ 14 (some 37) bl24 HT_ ?_
            refine pv_ 15 (some 38) bl25 HT_ ?_
            refine done_ (done_of HT_.out (by kernel_rfl)) ?_; obtain ⟨cA, cB⟩ := nn ax; obtain ⟨bS, bT, bU, bV⟩ := cz2 ab
            try go_wp2
            refine bodyPost_ret (results_cell_row rfl _ _ ag 26 #[.slice (some ad403) x3_1.length bm, .slice (some ad404) x4_1.length bO] (0, 0) _ rfl (by (with_reducible repeat (first | refine blk_drewN ?_ _ | refine blk_drew ?_ | refine blk_alloc ?_ _)); refine blk_put (cs := #[.slice (some ad403) x3_1.length bm, .slice none 0 0]) ?_ 1 _ rfl; (with_reducible repeat (first | refine blk_drewN ?_ _ | refine blk_drew ?_ | refine blk_alloc ?_ _)); refine blk_put (cs := #[.slice none 0 0, .slice none 0 0]) ?_ 0 _ rfl; (with_reducible repeat (first | refine blk_drewN ?_ _ | refine blk_drew ?_ | refine blk_alloc ?_ _)); exact ab.out) Try.underlying26 rfl (by kernel_rfl)) rfl ?_; exact ⟨_, _, by first | rfl | (simp [errW_none, errW_some] <;> rfl) | (simp only [← hji21, ← hji24]; first | rfl | (simp [errW_none, errW_some] <;> rfl)) | (simp [*, errW_none, errW_some] <;> rfl), rM (Aside0.mk (yF2 af ab)) (fun _ hk => hk.1), by (with_reducible repeat (first | apply Kd.R_alloc | apply Kd.R_drewN | apply Kd.R_drew)); exact Kd.R_mono (yF2 ae ab) (fun _ hk => hk.1), zS HB.out⟩
          ·rw [if_neg aS] at H; exact absurd H (by simp)
         ·rw [if_neg aR] at H; exact absurd H (by simp)
        ·rw [if_neg aQ] at H; exact absurd H (by simp)
       ·rw [if_neg aP] at H; exact absurd H (by simp)
      ·rw [if_neg aI] at H; have bw : decide (0 < (x3_1.length : Int)) = false := decide_eq_false aI; have bx : decide (0 < x3_1.length) = false := decide_eq_false (by omega); clear aI; simp only [Option.some.injEq, Prod.mk.injEq] at H; obtain ⟨rfl, rfl⟩ := H
       try go_wp2
       replace af := Aside0.mk (Kd.R_drew af.out); replace ae := Aside0.mk (Kd.R_drew ae.out); replace aa := Aside0.mk (blk_drew aa.out); replace ab := Aside0.mk (blk_drew ab.out); replace HB := Aside0.mk (below_drew1 HB.out); obtain ⟨bp, bq, br⟩ := Kd.R_slice af.out
       (first | subst br | (injection br with f1_ f2_ f3_; have f4_ := f1_.symm; have f5_ := f3_.symm; clear f1_ f2_ f3_; subst f4_; subst f5_))
       refine start_ (n := 16) (S := fun w' => True) (ds := []) bl9 (by kernel_rfl) rfl rfl trivial (fun hHeld => ?_); refine with_tabW impl_WordCanon.tab6 impl_WordCanon.bits6 (fun HT_ HW_ => ?_); generalize wr.drew = db at af ae aa ab HB hHeld ⊢
       refine pv_ 0 (some 23) bl10 HT_ ?_
       refine pv_ 1 (some 24) bl11 HT_ ?_
       refine pv_ 2 (some 25) bl12 HT_ ?_
       refine pv_ 3 (some 26) bl13 HT_ ?_
       refine pn_ 4 (some 27) bl14 HT_ ?_
       refine pn_ 5 (some 28) bl15 HT_ ?_
       refine pn_ 6 (some 29) bl16 HT_ ?_
       refine pn_ 7 (some 30) bl17 HT_ ?_
       refine pn_ 8 (some 31) bl18 HT_ ?_
       refine pn_ 9 (some 32) bl36 HT_ ?_
       refine pn_ 10 (some 33) bl37 HT_ ?_
       refine pn_ 11 (some 34) bl38 HT_ ?_
       refine pn_ 12 (some 35) bl22 HT_ ?_
       refine pn_ 13 (some 36) bl23 HT_ ?_
       refine pn_ 14 (some 37) bl24 HT_ ?_
       refine pv_ 15 (some 38) bl25 HT_ ?_
       refine done_ (done_of HT_.out (by kernel_rfl)) ?_; obtain ⟨bP, bQ, bR⟩ := Kd.R_slice ae.out; subst bR; obtain ⟨cC, cD⟩ := nn ax; obtain ⟨bW, bX, bY, bZ⟩ := cz2 ab
       try go_wp2
       refine bodyPost_ret (results_cell_row rfl _ _ ag 26 #[.slice bp x3_1.length bq, .slice bP x4_1.length bQ] (0, 0) _ rfl (by (with_reducible repeat (first | refine blk_drewN ?_ _ | refine blk_drew ?_ | refine blk_alloc ?_ _)); refine blk_put (cs := #[.slice bp x3_1.length bq, .slice none 0 0]) ?_ 1 _ rfl; (with_reducible repeat (first | refine blk_drewN ?_ _ | refine blk_drew ?_ | refine blk_alloc ?_ _)); refine blk_put (cs := #[.slice none 0 0, .slice none 0 0]) ?_ 0 _ rfl; (with_reducible repeat (first | refine blk_drewN ?_ _ | refine blk_drew ?_ | refine blk_alloc ?_ _)); exact ab.out) Try.underlying26 rfl (by kernel_rfl)) rfl ?_; exact ⟨_, _, vw, rM (Aside0.mk (yF2 af ab)) (fun _ hk => hk.1), by (with_reducible repeat (first | apply Kd.R_alloc | apply Kd.R_drewN | apply Kd.R_drew)); exact Kd.R_mono (yF2 ae ab) (fun _ hk => hk.1), zS HB.out⟩
   ·rw [if_neg c7] at H; exact absurd H (by simp)
  ·rw [if_neg c6] at H; exact absurd H (by simp)
 ·replace c3 := Bool.eq_false_iff.mpr c3; subst c3
  have H1 : (some (([] : List Int), ([] : List Int))) = some (r1, r2) := by rw [if_neg (show ¬ (false = true) by decide)] at H; exact H
  clear H; have H := H1; clear H1; simp only [Option.some.injEq, Prod.mk.injEq] at H; obtain ⟨rfl, rfl⟩ := H
  go_enter Try.func10, Try.ntmps10
  go_wp2_with (first | ((with_reducible refine gate_dst (N := 1) rfl ?_); (try (refine gate_guard (by rfl) ?_; dsimp only)); refine bx_ 1 #[.slice A0_0 l0_0.length c0_0, .slice A0_1 l0_1.length c0_1] 26 ?_; intro ah hg dc hbox hb; have aa := Aside0.mk (hbox); have bs := xG HB hg; have bt := xG HB hg; replace HB := xS HB hb; clear hb hbox hg) | ((with_reducible refine gate_dst (N := 2) rfl ?_); (try (refine gate_guard (by rfl) ?_; dsimp only)); refine bx_ 2 #[.slice none 0 0, .slice none 0 0] 26 ?_; intro ag hg dd hbox hb; have ab := Aside0.mk (hbox); have bu := xG HB hg; have bv := xG HB hg; replace HB := xS HB hb; have aw := xN aa hg; have ax := xM aa hg; replace aa := xB aa hb; clear hb hbox hg; obtain ⟨cE, cF⟩ := nn aw; obtain ⟨ca, cb, cc, cd⟩ := cz2 aa) | ((with_reducible refine gate_callee (f := 17) rfl ?_); refine gl_ (some 7) Try.func17 #[.agg #[.slice A0_0 l0_0.length c0_0, .slice A0_1 l0_1.length c0_1]] ?_; (with_reducible refine (impl_isRight.calls k _ _ l0_0 _ _ l0_1 false _ ?side1 ?side2 ?side3 ?side4 A2.out).mono ?_); (case side1 => exact zC (Kd.C_below HR0_0.out HB.out)); (case side2 => exact HC0_0.out); (case side3 => exact zC (Kd.C_below HR0_1.out HB.out)); (case side4 => exact HC0_1.out); rintro e de ⟨rfl, hb⟩; refine ⟨_, rfl, ?_⟩; replace aa := xB aa hb; replace ab := xB ab hb; replace HB := xS HB hb; (try clear hb); (try clear hb2); (try clear hk); (try clear hi); obtain ⟨ce, cf, cg, ch⟩ := cz2 ab))
  refine bodyPost_ret (results_cell_row rfl _ _ ag 26 #[.slice none 0 0, .slice none 0 0] (0, 0) _ rfl (by (with_reducible repeat (first | refine blk_drewN ?_ _ | refine blk_drew ?_ | refine blk_alloc ?_ _)); refine blk_put (cs := #[.slice none 0 0, .slice none 0 0]) ?_ 1 _ rfl; (with_reducible repeat (first | refine blk_drewN ?_ _ | refine blk_drew ?_ | refine blk_alloc ?_ _)); refine blk_put (cs := #[.slice none 0 0, .slice none 0 0]) ?_ 0 _ rfl; (with_reducible repeat (first | refine blk_drewN ?_ _ | refine blk_drew ?_ | refine blk_alloc ?_ _)); exact ab.out) Try.underlying26 rfl (by kernel_rfl)) rfl ?_; exact ⟨_, _, vw, by first | exact Kd.R_nil _ _ _ _ _ | exact Kd.N_nil _ _ _ _ _ | exact Kd.V_nil _ _ _ _ _ | exact Kd.Q_nil _ _ _ _ _ | exact Kd.S_nil _ _ _ _ _, by first | exact Kd.R_nil _ _ _ _ _ | exact Kd.N_nil _ _ _ _ _ | exact Kd.V_nil _ _ _ _ _ | exact Kd.Q_nil _ _ _ _ _ | exact Kd.S_nil _ _ _ _ _, zS HB.out⟩


/-! ### impl_equalWords: function 18 -/
def impl_equalWords.f (k : Nat) (l0_0 : List Int) (l0_1 : List Int) (l1_0 : List Int) (l1_1 : List Int) : Option (Bool) := (slices_Equal_int_int.f k l0_0 l1_0).bind fun t426 => (if t426 = true then ((slices_Equal_int_int.f k l0_1 l1_1).bind fun t427 => (some t427)) else (some false))
theorem impl_equalWords.mono : ∀ a0 a1 a2 a3 k, LeO (impl_equalWords.f k a0 a1 a2 a3) (impl_equalWords.f (k + 1) a0 a1 a2 a3) := by
 intro a0 a1 a2 a3 k
 unfold impl_equalWords.f
 repeat' first
   | (with_reducible exact slices_Equal_int_int.mono _ _ _)
   | (with_reducible exact LeO.refl _)
   | (with_reducible exact LeO.none _)
   | (with_reducible refine LeO.ite ?_ ?_)
   | (with_reducible refine LeO.bind ?_ (fun _ => ?_))
   | exact slices_Equal_int_int.mono _ _ _
   | exact LeO.none _
   | refine LeO.ite ?_ ?_
   | refine LeO.bind ?_ (fun _ => ?_)
open Go.Proofs.Ytiiioldjldghoaa.Short2 in
set_option maxHeartbeats 8000000 in
set_option maxRecDepth 100000 in
theorem impl_equalWords.calls (k : Nat) (A0_0 : Option Addr) (c0_0 : Nat) (l0_0 : List Int) (A0_1 : Option Addr) (c0_1 : Nat) (l0_1 : List Int) (A1_0 : Option Addr) (c1_0 : Nat) (l1_0 : List Int) (A1_1 : Option Addr) (c1_1 : Nat) (l1_1 : List Int) (r : Bool) (w : World) (hr0_0 : Kd.C (Kd.int .i64) w A0_0 l0_0.length l0_0) (hc0_0 : l0_0.length ≤ c0_0) (hr0_1 : Kd.C (Kd.int .i64) w A0_1 l0_1.length l0_1) (hc0_1 : l0_1.length ≤ c0_1) (hr1_0 : Kd.C (Kd.int .i64) w A1_0 l1_0.length l1_0) (hc1_0 : l1_0.length ≤ c1_0) (hr1_1 : Kd.C (Kd.int .i64) w A1_1 l1_1.length l1_1) (hc1_1 : l1_1.length ≤ c1_1) (h : impl_equalWords.f k l0_0 l0_1 l1_0 l1_1 = some r) :
  Calls Try.prog 18 #[.agg #[.slice A0_0 l0_0.length c0_0, .slice A0_1 l0_1.length c0_1], .agg #[.slice A1_0 l1_0.length c1_0, .slice A1_1 l1_1.length c1_1]] w fun e w' => e = .returned (.bool r) ∧ Below w.heap.size w w' := by
 have hu26 := Try.underlying26; have HR0_0 := Aside0.mk hr0_0; have HC0_0 := Aside0.mk hc0_0; clear hr0_0 hc0_0; have HR0_1 := Aside0.mk hr0_1; have HC0_1 := Aside0.mk hc0_1; clear hr0_1 hc0_1; have HR1_0 := Aside0.mk hr1_0; have HC1_0 := Aside0.mk hc1_0; clear hr1_0 hc1_0; have HR1_1 := Aside0.mk hr1_1; have HC1_1 := Aside0.mk hc1_1; clear hr1_1 hc1_1; have HB := Aside0.mk (Below.refl w.heap.size w); have H : ((slices_Equal_int_int.f k l0_0 l1_0).bind fun ad => (if ad = true then ((slices_Equal_int_int.f k l0_1 l1_1).bind fun ab => (some ab)) else (some false))) = some r := h; clear h; replace H := bI H; obtain ⟨ad, am, H⟩ := H; replace H : (if ad = true then ((slices_Equal_int_int.f k l0_1 l1_1).bind fun ab => (some ab)) else (some false)) = some r := H; have A3 := Aside0.mk am; clear am
 by_cases c4 : ad = true
 ·subst c4
  have H1 : ((slices_Equal_int_int.f k l0_1 l1_1).bind fun ab => (some ab)) = some r := by rw [if_pos rfl] at H; exact H
  clear H; have H := H1; clear H1; replace H := bI H; obtain ⟨ab, an, H⟩ := H; replace H : (some ab) = some r := H; have A5 := Aside0.mk an; clear an; obtain rfl := Option.some.inj H
  go_enter Try.func18, Try.ntmps18
  go_wp2_with (first | ((with_reducible refine gate_dst (N := 2) rfl ?_); refine bx_ 2 #[.slice A0_0 l0_0.length c0_0, .slice A0_1 l0_1.length c0_1] 26 ?_; intro ag hg w6 hbox hb; have aa := Aside0.mk (hbox); have ah := xG HB hg; have ai := xG HB hg; replace HB := xS HB hb; clear hb hbox hg) | ((with_reducible refine gate_dst (N := 3) rfl ?_); refine bx_ 3 #[.slice A1_0 l1_0.length c1_0, .slice A1_1 l1_1.length c1_1] 26 ?_; intro aj hg w7 hbox hb; have ae := Aside0.mk (hbox); have ak := xG HB hg; have al := xG HB hg; replace HB := xS HB hb; have ac := xN aa hg; have af := xM aa hg; replace aa := xB aa hb; clear hb hbox hg; obtain ⟨aI, aJ⟩ := nn ac; obtain ⟨aC, aD, aE, aF⟩ := cz2 aa; obtain ⟨ao, ap, aq, ar⟩ := cz2 ae) | ((with_reducible refine gate_callee (f := 33) rfl ?_); refine gl_ (some 9) Try.func33 #[.slice A0_0 l0_0.length c0_0, .slice A1_0 l1_0.length c1_0] ?_; (with_reducible refine (slices_Equal_int_int.calls k _ _ l0_0 _ _ l1_0 true _ ?side1 ?side2 ?side3 ?side4 A3.out).mono ?_); (case side1 => exact zC (Kd.C_below HR0_0.out HB.out)); (case side2 => exact HC0_0.out); (case side3 => exact zC (Kd.C_below HR1_0.out HB.out)); (case side4 => exact HC1_0.out); rintro e w' ⟨rfl, ⟨nd, rfl⟩⟩; refine ⟨_, rfl, ?_⟩) | (go_at_call 33; (with_reducible refine (slices_Equal_int_int.calls k _ _ l0_1 _ _ l1_1 ab _ ?side1 ?side2 ?side3 ?side4 A5.out).mono ?_); (case side1 => repeat (first | exact (Kd.C_below HR0_1.out (zS HB.out)) | (with_reducible refine Kd.C_alloc ?_ _) | (with_reducible refine Kd.C_drewN ?_ _) | (with_reducible refine Kd.C_drew ?_))); (case side2 => exact HC0_1.out); (case side3 => repeat (first | exact (Kd.C_below HR1_1.out (zS HB.out)) | (with_reducible refine Kd.C_alloc ?_ _) | (with_reducible refine Kd.C_drewN ?_ _) | (with_reducible refine Kd.C_drew ?_))); (case side4 => exact HC1_1.out); rintro e w' ⟨rfl, ⟨nd, rfl⟩⟩))
  go_ret; exact ⟨vw, zS HB.out⟩
 ·replace c4 := Bool.eq_false_iff.mpr c4; subst c4
  have H1 : (some false) = some r := by rw [if_neg (show ¬ (false = true) by decide)] at H; exact H
  clear H; have H := H1; clear H1; obtain rfl := Option.some.inj H
  go_enter Try.func18, Try.ntmps18
  go_wp2_with (first | ((with_reducible refine gate_dst (N := 2) rfl ?_); refine bx_ 2 #[.slice A0_0 l0_0.length c0_0, .slice A0_1 l0_1.length c0_1] 26 ?_; intro ag hg aK hbox hb; have aa := Aside0.mk (hbox); have ah := xG HB hg; have ai := xG HB hg; replace HB := xS HB hb; clear hb hbox hg) | ((with_reducible refine gate_dst (N := 3) rfl ?_); refine bx_ 3 #[.slice A1_0 l1_0.length c1_0, .slice A1_1 l1_1.length c1_1] 26 ?_; intro aj hg aL hbox hb; have ae := Aside0.mk (hbox); have ak := xG HB hg; have al := xG HB hg; replace HB := xS HB hb; have ac := xN aa hg; have af := xM aa hg; replace aa := xB aa hb; clear hb hbox hg; obtain ⟨aG, aH⟩ := nn ac; obtain ⟨au, av, aw, ax⟩ := cz2 aa; obtain ⟨ay, az, aA, aB⟩ := cz2 ae) | ((with_reducible refine gate_callee (f := 33) rfl ?_); refine gl_ (some 9) Try.func33 #[.slice A0_0 l0_0.length c0_0, .slice A1_0 l1_0.length c1_0] ?_; (with_reducible refine (slices_Equal_int_int.calls k _ _ l0_0 _ _ l1_0 false _ ?side1 ?side2 ?side3 ?side4 A3.out).mono ?_); (case side1 => exact zC (Kd.C_below HR0_0.out HB.out)); (case side2 => exact HC0_0.out); (case side3 => exact zC (Kd.C_below HR1_0.out HB.out)); (case side4 => exact HC1_0.out); rintro e w' ⟨rfl, ⟨nd, rfl⟩⟩; refine ⟨_, rfl, ?_⟩))
  go_ret; exact ⟨vw, zS HB.out⟩

section
open Go.Proofs.Ytiiioldjldghoaa.Short2.T
abbrev impl_WordSame.bl0 : Array Bool := #[f, f, f, f, f, f, f, f, f, f, f, f, f, f]
abbrev impl_WordSame.bl1 : Array Bool := #[t, f, f, f, f, f, f, f, f, f, f, f, f, f]
abbrev impl_WordSame.bl2 : Array Bool := #[t, t, f, f, f, f, f, f, f, f, f, f, f, f]
abbrev impl_WordSame.bl3 : Array Bool := #[t, t, t, f, f, f, f, f, f, f, f, f, f, f]
abbrev impl_WordSame.bl4 : Array Bool := #[t, t, t, t, f, f, f, f, f, f, f, f, f, f]
abbrev impl_WordSame.bl5 : Array Bool := #[t, t, t, t, t, f, f, f, f, f, f, f, f, f]
abbrev impl_WordSame.bl6 : Array Bool := #[t, t, t, t, t, t, f, f, f, f, f, f, f, f]
abbrev impl_WordSame.bl7 : Array Bool := #[t, t, t, t, t, t, t, f, f, f, f, f, f, f]
abbrev impl_WordSame.bl8 : Array Bool := #[t, t, t, t, t, t, t, t, f, f, f, f, f, f]
abbrev impl_WordSame.bl9 : Array Bool := #[t, t, t, t, t, t, t, t, f, t, f, f, f, f]
abbrev impl_WordSame.bl10 : Array Bool := #[t, t, t, t, t, t, t, t, t, t, f, f, f, f]
abbrev impl_WordSame.bl11 : Array Bool := #[t, t, t, t, t, t, t, t, t, t, t, f, f, f]
abbrev impl_WordSame.bl12 : Array Bool := #[t, t, t, t, t, t, t, t, t, t, t, t, f, f]
abbrev impl_WordSame.bl13 : Array Bool := #[t, t, t, t, t, t, t, t, t, t, t, t, t, f]
abbrev impl_WordSame.bl14 : Array Bool := #[t, t, t, t, t, t, t, t, t, t, t, t, t, t]
abbrev impl_WordSame.bl15 : Array Bool := #[t, t, t, t, t, t, t, t, t, f, f, f, f, f]
end
/-! ### impl_WordSame: function 6 -/
def impl_WordSame.f (k : Nat) (l0_0 : List Int) (l0_1 : List Int) (l1_0 : List Int) (l1_1 : List Int) : Option (Bool) := (impl_isRight.f k l0_0 l0_1).bind fun t430 => (if t430 = true then ((impl_isRight.f k l1_0 l1_1).bind fun t431 => (if t431 = true then ((impl_WordCanon.f k l0_0 l0_1).bind fun bt432 => ((impl_WordCanon.f k l1_0 l1_1).bind fun bt438 => ((impl_equalWords.f k bt432.1 bt432.2 bt438.1 bt438.2).bind fun t444 => (some t444)))) else (some false))) else (some false))
theorem impl_WordSame.mono : ∀ a0 a1 a2 a3 k, LeO (impl_WordSame.f k a0 a1 a2 a3) (impl_WordSame.f (k + 1) a0 a1 a2 a3) := by
 intro a0 a1 a2 a3 k
 unfold impl_WordSame.f
 repeat' first
   | (with_reducible exact impl_WordCanon.mono _ _ _)
   | (with_reducible exact impl_equalWords.mono _ _ _ _ _)
   | (with_reducible exact impl_isRight.mono _ _ _)
   | (with_reducible exact LeO.refl _)
   | (with_reducible exact LeO.none _)
   | (with_reducible refine LeO.ite ?_ ?_)
   | (with_reducible refine LeO.bind ?_ (fun _ => ?_))
   | exact impl_WordCanon.mono _ _ _
   | exact impl_equalWords.mono _ _ _ _ _
   | exact impl_isRight.mono _ _ _
   | exact LeO.none _
   | refine LeO.ite ?_ ?_
   | refine LeO.bind ?_ (fun _ => ?_)
def impl_WordSame.T1 : Bool × List (List Nat × List Nat) := (true, [([], []), ([0], [0]), ([1, 1], [1]), ([2], [2]), ([3, 2, 2], [2, 3]), ([2, 4], [2, 4]), ([5, 4], [5]), ([6], [6]), ([7, 6, 6], [6, 7]), ([6], [6]), ([9, 8, 6], [6, 9]), ([8, 10, 10, 6], [6, 8, 10]), ([6, 11], [6, 11]), ([12, 11, 0, 1, 2, 3, 4, 5, 6, 7, 8, 9, 10, 11, 12], [12])])
def impl_WordSame.B1 : List Nat := [0, 1, 3, 7, 15, 31, 63, 127, 255, 127, 1023, 2047, 4095, 8191]
theorem impl_WordSame.tab1 : rtab .any (opsOf Try.f6 1) = impl_WordSame.T1 := by kernel_rfl
theorem impl_WordSame.bits1 : waitsOk impl_WordSame.T1.2 impl_WordSame.B1 = true := by kernel_rfl
open Go.Proofs.Ytiiioldjldghoaa.Short2 in
set_option maxHeartbeats 8000000 in
set_option maxRecDepth 100000 in
theorem impl_WordSame.calls (k : Nat) (A0_0 : Option Addr) (c0_0 : Nat) (l0_0 : List Int) (A0_1 : Option Addr) (c0_1 : Nat) (l0_1 : List Int) (A1_0 : Option Addr) (c1_0 : Nat) (l1_0 : List Int) (A1_1 : Option Addr) (c1_1 : Nat) (l1_1 : List Int) (r : Bool) (w : World) (hr0_0 : Kd.C (Kd.int .i64) w A0_0 l0_0.length l0_0) (hc0_0 : l0_0.length ≤ c0_0) (hr0_1 : Kd.C (Kd.int .i64) w A0_1 l0_1.length l0_1) (hc0_1 : l0_1.length ≤ c0_1) (hr1_0 : Kd.C (Kd.int .i64) w A1_0 l1_0.length l1_0) (hc1_0 : l1_0.length ≤ c1_0) (hr1_1 : Kd.C (Kd.int .i64) w A1_1 l1_1.length l1_1) (hc1_1 : l1_1.length ≤ c1_1) (h : impl_WordSame.f k l0_0 l0_1 l1_0 l1_1 = some r) :
  Calls Try.prog 6 #[.agg #[.slice A0_0 l0_0.length c0_0, .slice A0_1 l0_1.length c0_1], .agg #[.slice A1_0 l1_0.length c1_0, .slice A1_1 l1_1.length c1_1]] w fun e w' => e = .returned (.bool r) ∧ Below w.heap.size w w' := by
 have hu26 := Try.underlying26; have HR0_0 := Aside0.mk hr0_0; have HC0_0 := Aside0.mk hc0_0; clear hr0_0 hc0_0; have HR0_1 := Aside0.mk hr0_1; have HC0_1 := Aside0.mk hc0_1; clear hr0_1 hc0_1; have HR1_0 := Aside0.mk hr1_0; have HC1_0 := Aside0.mk hc1_0; clear hr1_0 hc1_0; have HR1_1 := Aside0.mk hr1_1; have HC1_1 := Aside0.mk hc1_1; clear hr1_1 hc1_1; have HB := Aside0.mk (Below.refl w.heap.size w); have H : ((impl_isRight.f k l0_0 l0_1).bind fun ao => (if ao = true then ((impl_isRight.f k l1_0 l1_1).bind fun ag => (if ag = true then ((impl_WordCanon.f k l0_0 l0_1).bind fun bt432 => ((impl_WordCanon.f k l1_0 l1_1).bind fun bt438 => ((impl_equalWords.f k bt432.1 bt432.2 bt438.1 bt438.2).bind fun ac => (some ac)))) else (some false))) else (some false))) = some r := h; clear h; replace H := bI H; obtain ⟨ao, aB, H⟩ := H; replace H : (if ao = true then ((impl_isRight.f k l1_0 l1_1).bind fun ag => (if ag = true then ((impl_WordCanon.f k l0_0 l0_1).bind fun bt432 => ((impl_WordCanon.f k l1_0 l1_1).bind fun bt438 => ((impl_equalWords.f k bt432.1 bt432.2 bt438.1 bt438.2).bind fun ac => (some ac)))) else (some false))) else (some false)) = some r := H; have A3 := Aside0.mk aB; clear aB
 by_cases c4 : ao = true
 ·subst c4
  have H1 : ((impl_isRight.f k l1_0 l1_1).bind fun ag => (if ag = true then ((impl_WordCanon.f k l0_0 l0_1).bind fun bt432 => ((impl_WordCanon.f k l1_0 l1_1).bind fun bt438 => ((impl_equalWords.f k bt432.1 bt432.2 bt438.1 bt438.2).bind fun ac => (some ac)))) else (some false))) = some r := by rw [if_pos rfl] at H; exact H
  clear H; have H := H1; clear H1; replace H := bI H; obtain ⟨ag, aC, H⟩ := H; replace H : (if ag = true then ((impl_WordCanon.f k l0_0 l0_1).bind fun bt432 => ((impl_WordCanon.f k l1_0 l1_1).bind fun bt438 => ((impl_equalWords.f k bt432.1 bt432.2 bt438.1 bt438.2).bind fun ac => (some ac)))) else (some false)) = some r := H; have A5 := Aside0.mk aC; clear aC
  by_cases c6 : ag = true
  ·subst c6
   have H1 : ((impl_WordCanon.f k l0_0 l0_1).bind fun bt432 => ((impl_WordCanon.f k l1_0 l1_1).bind fun bt438 => ((impl_equalWords.f k bt432.1 bt432.2 bt438.1 bt438.2).bind fun ac => (some ac)))) = some r := by rw [if_pos rfl] at H; exact H
   clear H; have H := H1; clear H1; replace H := bI H; obtain ⟨⟨am, an⟩, aD, H⟩ := H; replace H : ((impl_WordCanon.f k l1_0 l1_1).bind fun bt438 => ((impl_equalWords.f k am an bt438.1 bt438.2).bind fun ac => (some ac))) = some r := H; have A7 := Aside0.mk aD; clear aD; replace H := bI H; obtain ⟨⟨ap, aq⟩, aE, H⟩ := H; replace H : ((impl_equalWords.f k am an ap aq).bind fun ac => (some ac)) = some r := H; have A8 := Aside0.mk aE; clear aE; replace H := bI H; obtain ⟨ac, aF, H⟩ := H; replace H : (some ac) = some r := H; have A9 := Aside0.mk aF; clear aF; obtain rfl := Option.some.inj H
   go_enter Try.func6, Try.ntmps6
   try go_wp2_with (first | ((with_reducible refine gate_dst (N := 2) rfl ?_); refine bx_ 2 #[.slice A0_0 l0_0.length c0_0, .slice A0_1 l0_1.length c0_1] 26 ?_; intro af hg aV hbox hb; have aa := Aside0.mk (hbox); have ar := xG HB hg; have au := xG HB hg; replace HB := xS HB hb; clear hb hbox hg) | ((with_reducible refine gate_dst (N := 3) rfl ?_); refine bx_ 3 #[.slice A1_0 l1_0.length c1_0, .slice A1_1 l1_1.length c1_1] 26 ?_; intro ah hg aO hbox hb; have ab := Aside0.mk (hbox); have av := xG HB hg; have aw := xG HB hg; replace HB := xS HB hb; have ak := xN aa hg; have al := xM aa hg; replace aa := xB aa hb; clear hb hbox hg))
   replace aa := Aside0.mk (blk_drew aa.out); replace ab := Aside0.mk (blk_drew ab.out); replace HB := Aside0.mk (below_drew1 HB.out); refine start_ (n := 14) (S := fun w' => w'.cell? ⟨af, 0, none⟩ = some (.slice A0_0 l0_0.length c0_0) ∧ w'.cell? ⟨af, 1, none⟩ = some (.slice A0_1 l0_1.length c0_1) ∧ w'.cell? ⟨ah, 0, none⟩ = some (.slice A1_0 l1_0.length c1_0) ∧ w'.cell? ⟨ah, 1, none⟩ = some (.slice A1_1 l1_1.length c1_1)) (ds := []) bl0 (by kernel_rfl) rfl rfl ⟨b1 aa 0, b1 aa 1, b1 ab 0, b1 ab 1⟩ (fun hHeld => ?_); refine with_tabW impl_WordSame.tab1 impl_WordSame.bits1 (fun HT_ HW_ => ?_); generalize aO.drew = aW at aa ab HB hHeld ⊢; refine tk_ 0 (some 5) bl1 HT_ HW_ hHeld ?_
   refine on_ 1 (some 6) bl2 HT_ (fun K hK => ?_); refine gs_ Try.func17 #[.agg #[.slice A0_0 l0_0.length c0_0, .slice A0_1 l0_1.length c0_1]] ?_
   with_reducible refine (impl_isRight.calls k _ _ l0_0 _ _ l0_1 true _ ?side1 ?side2 ?side3 ?side4 A3.out).mono ?_
   (case side1 => exact zC (Kd.C_below HR0_0.out HB.out))
   (case side2 => exact HC0_0.out)
   (case side3 => exact zC (Kd.C_below HR0_1.out HB.out))
   (case side4 => exact HC0_1.out)
   rintro e aX ⟨rfl, hb⟩; refine ⟨_, rfl, ?_⟩; replace aa := xB aa hb; replace ab := xB ab hb; replace HB := xS HB hb
   (try clear hb)
   (try clear hb2)
   (try clear hk)
   (try clear hi)
   refine hK.out _ _ ⟨b1 aa 0, b1 aa 1, b1 ab 0, b1 ab 1⟩ (fun hHeld => ?_); clear hK K; refine nr_ (some 6) ?_
   refine pv_ 2 (some 7) bl3 HT_ ?_
   refine tk_ 3 (some 8) bl4 HT_ HW_ hHeld ?_
   refine on_ 4 (some 9) bl5 HT_ (fun K hK => ?_); refine gs_ Try.func17 #[.agg #[.slice A1_0 l1_0.length c1_0, .slice A1_1 l1_1.length c1_1]] ?_
   with_reducible refine (impl_isRight.calls k _ _ l1_0 _ _ l1_1 true _ ?side1 ?side2 ?side3 ?side4 A5.out).mono ?_
   (case side1 => exact zC (Kd.C_below HR1_0.out HB.out))
   (case side2 => exact HC1_0.out)
   (case side3 => exact zC (Kd.C_below HR1_1.out HB.out))
   (case side4 => exact HC1_1.out)
   rintro e aY ⟨rfl, hb⟩; refine ⟨_, rfl, ?_⟩; replace aa := xB aa hb; replace ab := xB ab hb; replace HB := xS HB hb
   (try clear hb)
   (try clear hb2)
   (try clear hk)
   (try clear hi)
   refine hK.out _ _ ⟨b1 aa 0, b1 aa 1, b1 ab 0, b1 ab 1⟩ (fun hHeld => ?_); clear hK K; refine nr_ (some 9) ?_
   refine pv_ 5 (some 10) bl6 HT_ ?_
   refine pv_ 6 (some 11) bl7 HT_ ?_
   refine tk_ 7 (some 12) bl8 HT_ HW_ hHeld ?_
   refine tk_ 9 (some 14) bl9 HT_ HW_ hHeld ?_
   refine on_ 8 (some 13) bl10 HT_ (fun K hK => ?_); refine gs_ Try.func10 #[.agg #[.slice A0_0 l0_0.length c0_0, .slice A0_1 l0_1.length c0_1]] ?_
   with_reducible refine (impl_WordCanon.calls k _ _ l0_0 _ _ l0_1 am an _ ?side1 ?side2 ?side3 ?side4 A7.out).mono ?_
   (case side1 => exact zC (Kd.C_below HR0_0.out HB.out))
   (case side2 => exact HC0_0.out)
   (case side3 => exact zC (Kd.C_below HR0_1.out HB.out))
   (case side4 => exact HC0_1.out)
   rintro e aZ ⟨aR, aS, rfl, ho0, ho1, hb⟩; refine ⟨_, rfl, ?_⟩; have ad := rW0 ho0 HB; have ae := rW0 ho1 HB; replace aa := xB aa hb; replace ab := xB ab hb; replace HB := xS HB hb
   (try clear hb)
   (try clear hb2)
   (try clear hk)
   (try clear hi)
   (try clear ho0)
   (try clear ho1)
   refine hK.out _ _ ⟨b1 aa 0, b1 aa 1, b1 ab 0, b1 ab 1⟩ (fun hHeld => ?_); clear hK K; refine nr_ (some 13) ?_
   refine on_ 10 (some 15) bl11 HT_ (fun K hK => ?_); refine gs_ Try.func10 #[.agg #[.slice A1_0 l1_0.length c1_0, .slice A1_1 l1_1.length c1_1]] ?_
   with_reducible refine (impl_WordCanon.calls k _ _ l1_0 _ _ l1_1 ap aq _ ?side1 ?side2 ?side3 ?side4 A8.out).mono ?_
   (case side1 => exact zC (Kd.C_below HR1_0.out HB.out))
   (case side2 => exact HC1_0.out)
   (case side3 => exact zC (Kd.C_below HR1_1.out HB.out))
   (case side4 => exact HC1_1.out)
   rintro e ba ⟨aT, aU, rfl, ho0, ho1, hb⟩; refine ⟨_, rfl, ?_⟩; have ai := rW2 ho0 ad ae HB; have aj := rW2 ho1 ad ae HB; replace ad := Aside0.mk (Kd.R_mono (Kd.R_told (Kd.R_told (Kd.R_old (zR ad.out) hb) (Kd.R_base ho0)) (Kd.R_base ho1)) (fun _ h_ => h_.1)); replace ae := Aside0.mk (Kd.R_mono (Kd.R_told (Kd.R_told (Kd.R_old (zR ae.out) hb) (Kd.R_base ho0)) (Kd.R_base ho1)) (fun _ h_ => h_.1)); replace aa := xB aa hb; replace ab := xB ab hb; replace HB := xS HB hb
   (try clear hb)
   (try clear hb2)
   (try clear hk)
   (try clear hi)
   (try clear ho0)
   (try clear ho1)
   obtain ⟨aG, aH, ax⟩ := Kd.R_slice ad.out
   (first | subst ax | (injection ax with f1_ f2_ f3_; have f4_ := f1_.symm; have f5_ := f3_.symm; clear f1_ f2_ f3_; subst f4_; subst f5_))
   obtain ⟨aI, aJ, ay⟩ := Kd.R_slice ae.out
   (first | subst ay | (injection ay with f1_ f2_ f3_; have f4_ := f1_.symm; have f5_ := f3_.symm; clear f1_ f2_ f3_; subst f4_; subst f5_))
   obtain ⟨aK, aL, az⟩ := Kd.R_slice ai.out
   (first | subst az | (injection az with f1_ f2_ f3_; have f4_ := f1_.symm; have f5_ := f3_.symm; clear f1_ f2_ f3_; subst f4_; subst f5_))
   obtain ⟨aM, aN, aA⟩ := Kd.R_slice aj.out
   (first | subst aA | (injection aA with f1_ f2_ f3_; have f4_ := f1_.symm; have f5_ := f3_.symm; clear f1_ f2_ f3_; subst f4_; subst f5_))
   refine hK.out _ _ ⟨b1 aa 0, b1 aa 1, b1 ab 0, b1 ab 1⟩ (fun hHeld => ?_); clear hK K; refine nr_ (some 15) ?_
   refine on_ 11 (some 16) bl12 HT_ (fun K hK => ?_); refine gs_ Try.func18 #[.agg #[.slice aG am.length aH, .slice aI an.length aJ], .agg #[.slice aK ap.length aL, .slice aM aq.length aN]] ?_
   with_reducible refine (impl_equalWords.calls k _ _ am _ _ an _ _ ap _ _ aq ac _ ?side1 ?side2 ?side3 ?side4 ?side5 ?side6 ?side7 ?side8 A9.out).mono ?_
   (case side1 => exact sC ad)
   (case side2 => exact sL ad)
   (case side3 => exact sC ae)
   (case side4 => exact sL ae)
   (case side5 => exact sC ai)
   (case side6 => exact sL ai)
   (case side7 => exact sC aj)
   (case side8 => exact sL aj)
   rintro e bb ⟨rfl, hb⟩; refine ⟨_, rfl, ?_⟩; replace ad := xR ad hb; replace ae := xR ae hb; replace ai := xR ai hb; replace aj := xR aj hb; replace aa := xB aa hb; replace ab := xB ab hb; replace HB := xS HB hb
   (try clear hb)
   (try clear hb2)
   (try clear hk)
   (try clear hi)
   refine hK.out _ _ ⟨b1 aa 0, b1 aa 1, b1 ab 0, b1 ab 1⟩ (fun hHeld => ?_); clear hK K; refine nr_ (some 16) ?_
   refine pv_ 12 (some 17) bl13 HT_ ?_
   refine pv_ 13 (some 4) bl14 HT_ ?_
   refine done_ (done_of HT_.out (by kernel_rfl)) ?_
   try go_wp2
   go_ret; exact ⟨vw, zS HB.out⟩
  ·replace c6 := Bool.eq_false_iff.mpr c6; subst c6
   have H1 : (some false) = some r := by rw [if_neg (show ¬ (false = true) by decide)] at H; exact H
   clear H; have H := H1; clear H1; obtain rfl := Option.some.inj H
   go_enter Try.func6, Try.ntmps6
   try go_wp2_with (first | ((with_reducible refine gate_dst (N := 2) rfl ?_); refine bx_ 2 #[.slice A0_0 l0_0.length c0_0, .slice A0_1 l0_1.length c0_1] 26 ?_; intro af hg bc hbox hb; have aa := Aside0.mk (hbox); have ar := xG HB hg; have au := xG HB hg; replace HB := xS HB hb; clear hb hbox hg) | ((with_reducible refine gate_dst (N := 3) rfl ?_); refine bx_ 3 #[.slice A1_0 l1_0.length c1_0, .slice A1_1 l1_1.length c1_1] 26 ?_; intro ah hg aP hbox hb; have ab := Aside0.mk (hbox); have av := xG HB hg; have aw := xG HB hg; replace HB := xS HB hb; have ak := xN aa hg; have al := xM aa hg; replace aa := xB aa hb; clear hb hbox hg))
   replace aa := Aside0.mk (blk_drew aa.out); replace ab := Aside0.mk (blk_drew ab.out); replace HB := Aside0.mk (below_drew1 HB.out); refine start_ (n := 14) (S := fun w' => w'.cell? ⟨af, 0, none⟩ = some (.slice A0_0 l0_0.length c0_0) ∧ w'.cell? ⟨af, 1, none⟩ = some (.slice A0_1 l0_1.length c0_1) ∧ w'.cell? ⟨ah, 0, none⟩ = some (.slice A1_0 l1_0.length c1_0) ∧ w'.cell? ⟨ah, 1, none⟩ = some (.slice A1_1 l1_1.length c1_1)) (ds := []) bl0 (by kernel_rfl) rfl rfl ⟨b1 aa 0, b1 aa 1, b1 ab 0, b1 ab 1⟩ (fun hHeld => ?_); refine with_tabW impl_WordSame.tab1 impl_WordSame.bits1 (fun HT_ HW_ => ?_); generalize aP.drew = bd at aa ab HB hHeld ⊢; refine tk_ 0 (some 5) bl1 HT_ HW_ hHeld ?_
   refine on_ 1 (some 6) bl2 HT_ (fun K hK => ?_); refine gs_ Try.func17 #[.agg #[.slice A0_0 l0_0.length c0_0, .slice A0_1 l0_1.length c0_1]] ?_
   with_reducible refine (impl_isRight.calls k _ _ l0_0 _ _ l0_1 true _ ?side1 ?side2 ?side3 ?side4 A3.out).mono ?_
   (case side1 => exact zC (Kd.C_below HR0_0.out HB.out))
   (case side2 => exact HC0_0.out)
   (case side3 => exact zC (Kd.C_below HR0_1.out HB.out))
   (case side4 => exact HC0_1.out)
   rintro e be ⟨rfl, hb⟩; refine ⟨_, rfl, ?_⟩; replace aa := xB aa hb; replace ab := xB ab hb; replace HB := xS HB hb
   (try clear hb)
   (try clear hb2)
   (try clear hk)
   (try clear hi)
   refine hK.out _ _ ⟨b1 aa 0, b1 aa 1, b1 ab 0, b1 ab 1⟩ (fun hHeld => ?_); clear hK K; refine nr_ (some 6) ?_
   refine pv_ 2 (some 7) bl3 HT_ ?_
   refine tk_ 3 (some 8) bl4 HT_ HW_ hHeld ?_
   refine on_ 4 (some 9) bl5 HT_ (fun K hK => ?_); refine gs_ Try.func17 #[.agg #[.slice A1_0 l1_0.length c1_0, .slice A1_1 l1_1.length c1_1]] ?_
   with_reducible refine (impl_isRight.calls k _ _ l1_0 _ _ l1_1 false _ ?side1 ?side2 ?side3 ?side4 A5.out).mono ?_
   (case side1 => exact zC (Kd.C_below HR1_0.out HB.out))
   (case side2 => exact HC1_0.out)
   (case side3 => exact zC (Kd.C_below HR1_1.out HB.out))
   (case side4 => exact HC1_1.out)
   rintro e bf ⟨rfl, hb⟩; refine ⟨_, rfl, ?_⟩; replace aa := xB aa hb; replace ab := xB ab hb; replace HB := xS HB hb
   (try clear hb)
   (try clear hb2)
   (try clear hk)
   (try clear hi)
   refine hK.out _ _ ⟨b1 aa 0, b1 aa 1, b1 ab 0, b1 ab 1⟩ (fun hHeld => ?_); clear hK K; refine nr_ (some 9) ?_
   refine pv_ 5 (some 10) bl6 HT_ ?_
   refine pv_ 6 (some 11) bl7 HT_ ?_
   refine pn_ 7 (some 12) bl8 HT_ ?_
   refine pn_ 8 (some 13) bl15 HT_ ?_
   refine pn_ 9 (some 14) bl10 HT_ ?_
   refine pn_ 10 (some 15) bl11 HT_ ?_
   refine pn_ 11 (some 16) bl12 HT_ ?_
   refine pv_ 12 (some 17) bl13 HT_ ?_
   refine pv_ 13 (some 4) bl14 HT_ ?_
   refine done_ (done_of HT_.out (by kernel_rfl)) ?_
   try go_wp2
   go_ret; exact ⟨vw, zS HB.out⟩
 ·replace c4 := Bool.eq_false_iff.mpr c4; subst c4
  have H1 : (some false) = some r := by rw [if_neg (show ¬ (false = true) by decide)] at H; exact H
  clear H; have H := H1; clear H1; obtain rfl := Option.some.inj H
  go_enter Try.func6, Try.ntmps6
  try go_wp2_with (first | ((with_reducible refine gate_dst (N := 2) rfl ?_); refine bx_ 2 #[.slice A0_0 l0_0.length c0_0, .slice A0_1 l0_1.length c0_1] 26 ?_; intro af hg bg hbox hb; have aa := Aside0.mk (hbox); have ar := xG HB hg; have au := xG HB hg; replace HB := xS HB hb; clear hb hbox hg) | ((with_reducible refine gate_dst (N := 3) rfl ?_); refine bx_ 3 #[.slice A1_0 l1_0.length c1_0, .slice A1_1 l1_1.length c1_1] 26 ?_; intro ah hg aQ hbox hb; have ab := Aside0.mk (hbox); have av := xG HB hg; have aw := xG HB hg; replace HB := xS HB hb; have ak := xN aa hg; have al := xM aa hg; replace aa := xB aa hb; clear hb hbox hg))
  replace aa := Aside0.mk (blk_drew aa.out); replace ab := Aside0.mk (blk_drew ab.out); replace HB := Aside0.mk (below_drew1 HB.out); refine start_ (n := 14) (S := fun w' => w'.cell? ⟨af, 0, none⟩ = some (.slice A0_0 l0_0.length c0_0) ∧ w'.cell? ⟨af, 1, none⟩ = some (.slice A0_1 l0_1.length c0_1)) (ds := []) bl0 (by kernel_rfl) rfl rfl ⟨b1 aa 0, b1 aa 1⟩ (fun hHeld => ?_); refine with_tabW impl_WordSame.tab1 impl_WordSame.bits1 (fun HT_ HW_ => ?_); generalize aQ.drew = bh at aa ab HB hHeld ⊢; refine tk_ 0 (some 5) bl1 HT_ HW_ hHeld ?_
  refine on_ 1 (some 6) bl2 HT_ (fun K hK => ?_); refine gs_ Try.func17 #[.agg #[.slice A0_0 l0_0.length c0_0, .slice A0_1 l0_1.length c0_1]] ?_
  with_reducible refine (impl_isRight.calls k _ _ l0_0 _ _ l0_1 false _ ?side1 ?side2 ?side3 ?side4 A3.out).mono ?_
  (case side1 => exact zC (Kd.C_below HR0_0.out HB.out))
  (case side2 => exact HC0_0.out)
  (case side3 => exact zC (Kd.C_below HR0_1.out HB.out))
  (case side4 => exact HC0_1.out)
  rintro e bi ⟨rfl, hb⟩; refine ⟨_, rfl, ?_⟩; replace aa := xB aa hb; replace ab := xB ab hb; replace HB := xS HB hb
  (try clear hb)
  (try clear hb2)
  (try clear hk)
  (try clear hi)
  refine hK.out _ _ ⟨b1 aa 0, b1 aa 1⟩ (fun hHeld => ?_); clear hK K; refine nr_ (some 6) ?_
  refine pv_ 2 (some 7) bl3 HT_ ?_
  refine pn_ 3 (some 8) bl4 HT_ ?_
  refine pn_ 4 (some 9) bl5 HT_ ?_
  refine pv_ 5 (some 10) bl6 HT_ ?_
  refine pv_ 6 (some 11) bl7 HT_ ?_
  refine pn_ 7 (some 12) bl8 HT_ ?_
  refine pn_ 8 (some 13) bl15 HT_ ?_
  refine pn_ 9 (some 14) bl10 HT_ ?_
  refine pn_ 10 (some 15) bl11 HT_ ?_
  refine pn_ 11 (some 16) bl12 HT_ ?_
  refine pv_ 12 (some 17) bl13 HT_ ?_
  refine pv_ 13 (some 4) bl14 HT_ ?_
  refine done_ (done_of HT_.out (by kernel_rfl)) ?_
  try go_wp2
  go_ret; exact ⟨vw, zS HB.out⟩


/-! ### laws_sameInts: function 8 -/
def laws_sameInts.l0 : Nat → List Int → List Int → Int → Option (Bool)
 | 0, _, _, _ => none
 | k + 1, x0, x1, x5 => if x5 < (x0.length : Int) then (if 0 ≤ x5 then (if x5 < (x1.length : Int) then (if (rd x0 x5) = (rd x1 x5) then (laws_sameInts.l0 k x0 x1 (wrap64 (x5 + 1))) else (some false)) else (none)) else (none)) else (some true)
def laws_sameInts.f (k : Nat) (l0 : List Int) (l1 : List Int) : Option (Bool) := if (l0.length : Int) = (l1.length : Int) then (laws_sameInts.l0 k l0 l1 0) else (some false)
theorem laws_sameInts.mono_l : ∀ k, (∀ y0 y1 y2, LeO (laws_sameInts.l0 k y0 y1 y2) (laws_sameInts.l0 (k + 1) y0 y1 y2))
 | 0 => fun _ _ _ r h => by simp [laws_sameInts.l0] at h
 | k + 1 => by
  have ih0 := laws_sameInts.mono_l k
  ·intro y0 y1 y2
   unfold laws_sameInts.l0
   repeat' first
   | (with_reducible exact ih0 _ _ _)
   | (with_reducible exact LeO.refl _)
   | (with_reducible exact LeO.none _)
   | (with_reducible refine LeO.ite ?_ ?_)
   | (with_reducible refine LeO.bind ?_ (fun _ => ?_))
   | exact ih0 _ _ _
   | exact LeO.none _
   | refine LeO.ite ?_ ?_
   | refine LeO.bind ?_ (fun _ => ?_)
theorem laws_sameInts.mono : ∀ a0 a1 k, LeO (laws_sameInts.f k a0 a1) (laws_sameInts.f (k + 1) a0 a1) := by
 intro a0 a1 k
 have ih0 := laws_sameInts.mono_l k
 unfold laws_sameInts.f
 repeat' first
   | (with_reducible exact ih0 _ _ _)
   | (with_reducible exact LeO.refl _)
   | (with_reducible exact LeO.none _)
   | (with_reducible refine LeO.ite ?_ ?_)
   | (with_reducible refine LeO.bind ?_ (fun _ => ?_))
   | exact ih0 _ _ _
   | exact LeO.none _
   | refine LeO.ite ?_ ?_
   | refine LeO.bind ?_ (fun _ => ?_)
open Go.Proofs.Ytiiioldjldghoaa.Short2 in
set_option maxHeartbeats 8000000 in
set_option maxRecDepth 100000 in
theorem laws_sameInts.calls (k : Nat) (A0 : Option Addr) (c0 : Nat) (l0 : List Int) (A1 : Option Addr) (c1 : Nat) (l1 : List Int) (r : Bool) (w : World) (hr0 : Kd.C (Kd.int .i64) w A0 l0.length l0) (hc0 : l0.length ≤ c0) (hr1 : Kd.C (Kd.int .i64) w A1 l1.length l1) (hc1 : l1.length ≤ c1) (h : laws_sameInts.f k l0 l1 = some r) :
  Calls Try.prog 8 #[.slice A0 l0.length c0, .slice A1 l1.length c1] w fun e w' => e = .returned (.bool r) ∧ Drawn0 w w' := by
 have HR0 := Aside0.mk hr0; have HC0 := Aside0.mk hc0; clear hr0 hc0; have HR1 := Aside0.mk hr1; have HC1 := Aside0.mk hc1; clear hr1 hc1; have H : (if (l0.length : Int) = (l1.length : Int) then (laws_sameInts.l0 k l0 l1 0) else (some false)) = some r := h; clear h
 by_cases c3 : (l0.length : Int) = (l1.length : Int)
 ·rw [if_pos c3] at H; have ae : ((l0.length : Int) == (l1.length : Int)) = true := beq_iff_eq.mpr c3; have af : ((l0.length : Int) != (l1.length : Int)) = false := bne_eq_false_iff_eq.mpr c3
  have ag : (l0.length == l1.length) = true := by first | simpa using c3 | (simp at c3 ⊢; omega)
  clear c3; have H' := Aside0.mk H; clear H
  go_enter Try.func8, Try.ntmps8
  go_wp2
  repeat (go_quiet (fail); try go_wp2)
  go_loopg [5] k (fun kq v5 w' => ∃ (x5_1 : Int), v5 = .int .i64 x5_1 ∧ Aside0 (laws_sameInts.l0 kq l0 l1 x5_1 = some r) ∧ Aside0 (kq ≤ k) ∧ Drawn0 w w')
  case atStart => exact ⟨(0), vv, H', ⟨Nat.le_refl _⟩, by repeat (first | exact Drawn0.refl _ | apply Drawn0.step)⟩
  case round =>
   clear H'
   try clear c1
   try clear p2
   try clear c3
   try clear ae
   try clear af
   try clear ag
   obtain ⟨x5_1, rfl, HA, HK1, ⟨m1, rfl⟩⟩ := hrel
   cases gk with
   | zero => exact absurd HA.out (by simp [laws_sameInts.l0])
   | succ k1 =>
    have H := HA.out; clear HA; simp only [laws_sameInts.l0] at H
    by_cases c4 : x5_1 < (l0.length : Int)
    ·rw [if_pos c4] at H; have ah : decide (x5_1 < (l0.length : Int)) = true := decide_eq_true c4; clear c4
     by_cases c5 : 0 ≤ x5_1
     ·rw [if_pos c5] at H; have ak : decide (0 ≤ x5_1) = true := decide_eq_true c5; clear c5
      by_cases c6 : x5_1 < (l1.length : Int)
      ·rw [if_pos c6] at H; have al : decide (x5_1 < (l1.length : Int)) = true := decide_eq_true c6; clear c6
       by_cases c7 : (rd l0 x5_1) = (rd l1 x5_1)
       ·rw [if_pos c7] at H; have ai : ((rd l0 x5_1) == (rd l1 x5_1)) = true := beq_iff_eq.mpr c7; have aj : ((rd l0 x5_1) != (rd l1 x5_1)) = false := bne_eq_false_iff_eq.mpr c7; clear c7; have H' := Aside0.mk H; clear H; have aa : 0 ≤ (x5_1 : Int) := oD; have q445 : x5_1 < (l0.length : Int) := oD; obtain ⟨ad445, e445, ac⟩ := Kd.at_int HR0.out x5_1 aa q445
        cases e445
        replace aa := eq_true aa; replace q445 := eq_true q445; have ab : 0 ≤ (x5_1 : Int) := oD; have q446 : x5_1 < (l1.length : Int) := oD; obtain ⟨ad446, e446, ad⟩ := Kd.at_int HR1.out x5_1 ab q446
        cases e446
        replace ab := eq_true ab; replace q446 := eq_true q446
        go_wp2
        repeat (go_quiet (fail); try go_wp2)
        go_roundg k1
        case measure => have := HK1.out; omega
        case rel => exact ⟨(wrap64 (x5_1 + 1)), vv, H', ⟨by have := HK1.out; omega⟩, by repeat (first | exact Drawn0.refl _ | apply Drawn0.step)⟩
       ·rw [if_neg c7] at H; have ai : ((rd l0 x5_1) == (rd l1 x5_1)) = false := beq_eq_false_iff_ne.mpr c7; have aj : ((rd l0 x5_1) != (rd l1 x5_1)) = true := bne_iff_ne.mpr c7; obtain rfl := Option.some.inj H; have aa : 0 ≤ (x5_1 : Int) := oD; have q445 : x5_1 < (l0.length : Int) := oD; obtain ⟨ad445, e445, ac⟩ := Kd.at_int HR0.out x5_1 aa q445
        cases e445
        replace aa := eq_true aa; replace q445 := eq_true q445; have ab : 0 ≤ (x5_1 : Int) := oD; have q446 : x5_1 < (l1.length : Int) := oD; obtain ⟨ad446, e446, ad⟩ := Kd.at_int HR1.out x5_1 ab q446
        cases e446
        replace ab := eq_true ab; replace q446 := eq_true q446
        go_wp2
        repeat (go_quiet (fail); try go_wp2)
        go_ret; exact ⟨by first | rfl | (simp; done) | (simp [*]; done), by repeat (first | exact Drawn0.refl _ | apply Drawn0.step)⟩
      ·rw [if_neg c6] at H; exact absurd H (by simp)
     ·rw [if_neg c5] at H; exact absurd H (by simp)
    ·rw [if_neg c4] at H; have ah : decide (x5_1 < (l0.length : Int)) = false := decide_eq_false c4; clear c4; obtain rfl := Option.some.inj H
     go_wp2
     repeat (go_quiet (fail); try go_wp2)
     go_ret; exact ⟨by first | rfl | (simp; done) | (simp [*]; done), by repeat (first | exact Drawn0.refl _ | apply Drawn0.step)⟩
 ·rw [if_neg c3] at H; have ae : ((l0.length : Int) == (l1.length : Int)) = false := beq_eq_false_iff_ne.mpr c3; have af : ((l0.length : Int) != (l1.length : Int)) = true := bne_iff_ne.mpr c3
  have ag : (l0.length == l1.length) = false := by first | simpa using c3 | (simp at c3 ⊢; omega)
  obtain rfl := Option.some.inj H
  go_enter Try.func8, Try.ntmps8
  go_wp2
  repeat (go_quiet (fail); try go_wp2)
  go_ret; exact ⟨by first | rfl | (simp; done) | (simp [*]; done), by repeat (first | exact Drawn0.refl _ | apply Drawn0.step)⟩

end Go.Proofs.Ytiiioldjldghoaa.MFnSame3
