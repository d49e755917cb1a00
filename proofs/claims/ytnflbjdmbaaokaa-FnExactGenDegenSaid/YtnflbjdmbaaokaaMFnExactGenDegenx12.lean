-- Written by a program of this session, out of Lean's print of the translation. Not trusted: Lean checks it.
import Derived.Test.YtnflbjdmbaaokaaMFnExactGenDegenx0
namespace Go.Proofs.Ytnflbjdmbaaokaa.MFnExactGenDegen
open Go.RowKit Go.Proofs.YtnflbjdmbaaokaaW.PrintWords Go.Proofs.YtnflbjdmbaaokaaW.PrintLast Go.Proofs.YtnflbjdmbaaokaaW.PrintMore Go.Proofs.Ytnflbjdmbaaokaa.Short6
attribute [local go_sem] max2_int min2_int max_two min_two max_three min_three max_four min_four   -- for this text's walks alone
set_option linter.unusedVariables false
set_option linter.unusedSimpArgs false


/-! ### laws_eqEdge: function 46 -/
def laws_eqEdge.f (a0_0 : Int) (a0_1 : Int) (a0_2 : Int) (a0_3 : Bool) (a1_0 : Int) (a1_1 : Int) (a1_2 : Int) (a1_3 : Bool) : Option (Bool) := if a0_0 = a1_0 then (if a0_1 = a1_1 then (if a0_2 = a1_2 then (if (a0_3 != a1_3) = true then (some false) else (some true)) else (some false)) else (some false)) else (some false)
open Go.Proofs.Ytnflbjdmbaaokaa.Short2 in
set_option maxHeartbeats 8000000 in
set_option maxRecDepth 100000 in
theorem laws_eqEdge.calls (a0_0 : Int) (a0_1 : Int) (a0_2 : Int) (a0_3 : Bool) (a1_0 : Int) (a1_1 : Int) (a1_2 : Int) (a1_3 : Bool) (r : Bool) (w : World) (h : laws_eqEdge.f a0_0 a0_1 a0_2 a0_3 a1_0 a1_1 a1_2 a1_3 = some r) :
  Calls Try.prog 46 #[.agg #[.int .i64 a0_0, .int .i64 a0_1, .int .i64 a0_2, .bool a0_3], .agg #[.int .i64 a1_0, .int .i64 a1_1, .int .i64 a1_2, .bool a1_3]] w fun e w' => e = .returned (.bool r) ∧ Below w.heap.size w w' := by
 have hu48 := Try.underlying48; have HB := Aside0.mk (Below.refl w.heap.size w); have H : (if a0_0 = a1_0 then (if a0_1 = a1_1 then (if a0_2 = a1_2 then (if (a0_3 != a1_3) = true then (some false) else (some true)) else (some false)) else (some false)) else (some false)) = some r := h; clear h
 by_cases c3 : a0_0 = a1_0
 ·rw [if_pos c3] at H; have ak : (a0_0 == a1_0) = true := beq_iff_eq.mpr c3; have al : (a0_0 != a1_0) = false := bne_eq_false_iff_eq.mpr c3; clear c3
  by_cases c4 : a0_1 = a1_1
  ·rw [if_pos c4] at H; have am : (a0_1 == a1_1) = true := beq_iff_eq.mpr c4; have an : (a0_1 != a1_1) = false := bne_eq_false_iff_eq.mpr c4; clear c4
   by_cases c5 : a0_2 = a1_2
   ·rw [if_pos c5] at H; have ao : (a0_2 == a1_2) = true := beq_iff_eq.mpr c5; have ap : (a0_2 != a1_2) = false := bne_eq_false_iff_eq.mpr c5; clear c5
    by_cases c6 : (a0_3 != a1_3) = true
    ·rw [if_pos c6] at H; have aq : (a0_3 != a1_3) = true := c6
     (try (have ar : decide (a0_3 = a1_3) = false := by simpa using c6))
     (try (have au : (a0_3 == a1_3) = false := by simpa using c6))
     (try (have cg : ¬ (a0_3 = a1_3) := by simpa using c6))
     clear c6; obtain rfl := Option.some.inj H
     go_enter Try.func46, Try.ntmps46
     go_wp2_with (first | ((with_reducible refine gate_dst (N := 2) rfl ?_); refine bx_ 2 #[.int .i64 a0_0, .int .i64 a0_1, .int .i64 a0_2, .bool a0_3] 48 ?_; intro ae hg w7 hbox hb; have aa := Aside0.mk (hbox); have af := xG HB hg; have ag := xG HB hg; replace HB := xS HB hb; clear hb hbox hg) | ((with_reducible refine gate_dst (N := 3) rfl ?_); refine bx_ 3 #[.int .i64 a1_0, .int .i64 a1_1, .int .i64 a1_2, .bool a1_3] 48 ?_; intro ah hg w8 hbox hb; have ac := Aside0.mk (hbox); have ai := xG HB hg; have aj := xG HB hg; replace HB := xS HB hb; have ab := xN aa hg; have ad := xM aa hg; replace aa := xB aa hb; clear hb hbox hg; obtain ⟨ch, ci⟩ := nn ab; obtain ⟨av, aw, ax, ay, az, aA, aB, aC⟩ := cz4 aa; obtain ⟨aD, aE, aF, aG, aH, aI, aJ, aK⟩ := cz4 ac))
     go_ret; exact ⟨vw, zS HB.out⟩
    ·rw [if_neg c6] at H
     have aq : (a0_3 != a1_3) = false := by simpa using c6
     (try (have ar : decide (a0_3 = a1_3) = true := by simpa using c6))
     (try (have au : (a0_3 == a1_3) = true := by simpa using c6))
     clear c6; obtain rfl := Option.some.inj H
     go_enter Try.func46, Try.ntmps46
     go_wp2_with (first | ((with_reducible refine gate_dst (N := 2) rfl ?_); refine bx_ 2 #[.int .i64 a0_0, .int .i64 a0_1, .int .i64 a0_2, .bool a0_3] 48 ?_; intro ae hg cj hbox hb; have aa := Aside0.mk (hbox); have af := xG HB hg; have ag := xG HB hg; replace HB := xS HB hb; clear hb hbox hg) | ((with_reducible refine gate_dst (N := 3) rfl ?_); refine bx_ 3 #[.int .i64 a1_0, .int .i64 a1_1, .int .i64 a1_2, .bool a1_3] 48 ?_; intro ah hg ck hbox hb; have ac := Aside0.mk (hbox); have ai := xG HB hg; have aj := xG HB hg; replace HB := xS HB hb; have ab := xN aa hg; have ad := xM aa hg; replace aa := xB aa hb; clear hb hbox hg; obtain ⟨bY, bZ⟩ := nn ab; obtain ⟨aL, aM, aN, aO, aP, aQ, aR, aS⟩ := cz4 aa; obtain ⟨aT, aU, aV, aW, aX, aY, aZ, ba⟩ := cz4 ac))
     go_ret; exact ⟨vw, zS HB.out⟩
   ·rw [if_neg c5] at H; have ao : (a0_2 == a1_2) = false := beq_eq_false_iff_ne.mpr c5; have ap : (a0_2 != a1_2) = true := bne_iff_ne.mpr c5; obtain rfl := Option.some.inj H
    go_enter Try.func46, Try.ntmps46
    go_wp2_with (first | ((with_reducible refine gate_dst (N := 2) rfl ?_); refine bx_ 2 #[.int .i64 a0_0, .int .i64 a0_1, .int .i64 a0_2, .bool a0_3] 48 ?_; intro ae hg cl hbox hb; have aa := Aside0.mk (hbox); have af := xG HB hg; have ag := xG HB hg; replace HB := xS HB hb; clear hb hbox hg) | ((with_reducible refine gate_dst (N := 3) rfl ?_); refine bx_ 3 #[.int .i64 a1_0, .int .i64 a1_1, .int .i64 a1_2, .bool a1_3] 48 ?_; intro ah hg cm hbox hb; have ac := Aside0.mk (hbox); have ai := xG HB hg; have aj := xG HB hg; replace HB := xS HB hb; have ab := xN aa hg; have ad := xM aa hg; replace aa := xB aa hb; clear hb hbox hg; obtain ⟨ca, cb⟩ := nn ab; obtain ⟨bb, bc, bd, be, bf, bg, bh, bi⟩ := cz4 aa; obtain ⟨bj, bk, bl, bm, bn, bo, bp, bq⟩ := cz4 ac))
    go_ret; exact ⟨vw, zS HB.out⟩
  ·rw [if_neg c4] at H; have am : (a0_1 == a1_1) = false := beq_eq_false_iff_ne.mpr c4; have an : (a0_1 != a1_1) = true := bne_iff_ne.mpr c4; obtain rfl := Option.some.inj H
   go_enter Try.func46, Try.ntmps46
   go_wp2_with (first | ((with_reducible refine gate_dst (N := 2) rfl ?_); refine bx_ 2 #[.int .i64 a0_0, .int .i64 a0_1, .int .i64 a0_2, .bool a0_3] 48 ?_; intro ae hg cn hbox hb; have aa := Aside0.mk (hbox); have af := xG HB hg; have ag := xG HB hg; replace HB := xS HB hb; clear hb hbox hg) | ((with_reducible refine gate_dst (N := 3) rfl ?_); refine bx_ 3 #[.int .i64 a1_0, .int .i64 a1_1, .int .i64 a1_2, .bool a1_3] 48 ?_; intro ah hg co hbox hb; have ac := Aside0.mk (hbox); have ai := xG HB hg; have aj := xG HB hg; replace HB := xS HB hb; have ab := xN aa hg; have ad := xM aa hg; replace aa := xB aa hb; clear hb hbox hg; obtain ⟨cc, cd⟩ := nn ab; obtain ⟨br, bs, bt, bu, bv, bw, bx, bz⟩ := cz4 aa; obtain ⟨bA, bB, bC, bD, bE, bF, bG, bH⟩ := cz4 ac))
   go_ret; exact ⟨vw, zS HB.out⟩
 ·rw [if_neg c3] at H; have ak : (a0_0 == a1_0) = false := beq_eq_false_iff_ne.mpr c3; have al : (a0_0 != a1_0) = true := bne_iff_ne.mpr c3; obtain rfl := Option.some.inj H
  go_enter Try.func46, Try.ntmps46
  go_wp2_with (first | ((with_reducible refine gate_dst (N := 2) rfl ?_); refine bx_ 2 #[.int .i64 a0_0, .int .i64 a0_1, .int .i64 a0_2, .bool a0_3] 48 ?_; intro ae hg cp hbox hb; have aa := Aside0.mk (hbox); have af := xG HB hg; have ag := xG HB hg; replace HB := xS HB hb; clear hb hbox hg) | ((with_reducible refine gate_dst (N := 3) rfl ?_); refine bx_ 3 #[.int .i64 a1_0, .int .i64 a1_1, .int .i64 a1_2, .bool a1_3] 48 ?_; intro ah hg cq hbox hb; have ac := Aside0.mk (hbox); have ai := xG HB hg; have aj := xG HB hg; replace HB := xS HB hb; have ab := xN aa hg; have ad := xM aa hg; replace aa := xB aa hb; clear hb hbox hg; obtain ⟨ce, cf⟩ := nn ab; obtain ⟨bI, bJ, bK, bL, bM, bN, bO, bP⟩ := cz4 aa; obtain ⟨bQ, bR, bS, bT, bU, bV, bW, bX⟩ := cz4 ac))
  go_ret; exact ⟨vw, zS HB.out⟩

section
open Go.Proofs.Ytnflbjdmbaaokaa.Short2.T
abbrev laws_eqEdgeS.bl0 : Array Bool := #[f, f, f, f, f, f, f, f, f, f]
abbrev laws_eqEdgeS.bl1 : Array Bool := #[t, f, f, f, f, f, f, f, f, f]
abbrev laws_eqEdgeS.bl2 : Array Bool := #[t, t, f, f, f, f, f, f, f, f]
abbrev laws_eqEdgeS.bl3 : Array Bool := #[t, t, t, f, f, f, f, f, f, f]
abbrev laws_eqEdgeS.bl4 : Array Bool := #[t, t, t, f, t, f, f, f, f, f]
abbrev laws_eqEdgeS.bl5 : Array Bool := #[t, t, t, f, t, t, f, f, f, f]
abbrev laws_eqEdgeS.bl6 : Array Bool := #[t, t, t, f, t, t, t, f, f, f]
abbrev laws_eqEdgeS.bl7 : Array Bool := #[t, t, t, t, t, t, t, f, f, f]
abbrev laws_eqEdgeS.bl8 : Array Bool := #[t, t, t, t, t, t, t, t, f, f]
abbrev laws_eqEdgeS.bl9 : Array Bool := #[t, t, t, t, t, t, t, t, t, f]
abbrev laws_eqEdgeS.bl10 : Array Bool := #[t, t, t, t, t, t, t, t, t, t]
end
/-! ### laws_eqEdgeS: function 26 -/
def laws_eqEdgeS.l0 : Nat → List (S48) → List (S48) → Int → Option (Bool)
 | 0, _, _, _ => none
 | k + 1, x0, x1, x5 => if x5 < (x0.length : Int) then (if 0 ≤ x5 then (if x5 < (x1.length : Int) then ((laws_eqEdge.f ((rd_T48 x0 x5).f0) ((rd_T48 x0 x5).f1) ((rd_T48 x0 x5).f2) ((rd_T48 x0 x5).f3) ((rd_T48 x1 x5).f0) ((rd_T48 x1 x5).f1) ((rd_T48 x1 x5).f2) ((rd_T48 x1 x5).f3)).bind fun t315 => (if t315 = true then (laws_eqEdgeS.l0 k x0 x1 (wrap64 (x5 + 1))) else (some false))) else (none)) else (none)) else (some true)
def laws_eqEdgeS.f (k : Nat) (l0 : List (S48)) (l1 : List (S48)) : Option (Bool) := if (l0.length : Int) = (l1.length : Int) then (laws_eqEdgeS.l0 k l0 l1 0) else (some false)
theorem laws_eqEdgeS.mono_l : ∀ k, (∀ y0 y1 y2, LeO (laws_eqEdgeS.l0 k y0 y1 y2) (laws_eqEdgeS.l0 (k + 1) y0 y1 y2))
 | 0 => fun _ _ _ r h => by simp [laws_eqEdgeS.l0] at h
 | k + 1 => by
  have ih0 := laws_eqEdgeS.mono_l k
  ·intro y0 y1 y2
   unfold laws_eqEdgeS.l0
   repeat' first
   | (with_reducible exact ih0 _ _ _)
   | (with_reducible exact LeO.refl _)
   | (with_reducible exact LeO.none _)
   | (with_reducible refine LeO.ite ?_ ?_)
   | (with_reducible refine LeO.bind ?_ (fun _ => ?_))
   | exact ih0 _ _ _
   | exact LeO.none _
   | refine LeO.ite ?_ ?_
   | refine LeO.bind ?_ (fun _ => ?_)
theorem laws_eqEdgeS.mono : ∀ a0 a1 k, LeO (laws_eqEdgeS.f k a0 a1) (laws_eqEdgeS.f (k + 1) a0 a1) := by
 intro a0 a1 k
 have ih0 := laws_eqEdgeS.mono_l k
 unfold laws_eqEdgeS.f
 repeat' first
   | (with_reducible exact ih0 _ _ _)
   | (with_reducible exact LeO.refl _)
   | (with_reducible exact LeO.none _)
   | (with_reducible refine LeO.ite ?_ ?_)
   | (with_reducible refine LeO.bind ?_ (fun _ => ?_))
   | exact ih0 _ _ _
   | exact LeO.none _
   | refine LeO.ite ?_ ?_
   | refine LeO.bind ?_ (fun _ => ?_)
def laws_eqEdgeS.T6 : Bool × List (List Nat × List Nat) := (true, [([], []), ([], []), ([0, 1], [0, 1]), ([2], [2]), ([], []), ([], []), ([4, 5], [4, 5]), ([6], [6]), ([3, 7], [3, 7]), ([8], [8])])
def laws_eqEdgeS.B6 : List Nat := [0, 0, 3, 7, 0, 0, 48, 112, 255, 511]
theorem laws_eqEdgeS.tab6 : rtab .any (opsOf Try.f26 6) = laws_eqEdgeS.T6 := by kernel_rfl
theorem laws_eqEdgeS.bits6 : waitsOk laws_eqEdgeS.T6.2 laws_eqEdgeS.B6 = true := by kernel_rfl
open Go.Proofs.Ytnflbjdmbaaokaa.Short2 in
set_option maxHeartbeats 8000000 in
set_option maxRecDepth 100000 in
theorem laws_eqEdgeS.calls (k : Nat) (A0 : Option Addr) (c0 : Nat) (l0 : List (S48)) (A1 : Option Addr) (c1 : Nat) (l1 : List (S48)) (r : Bool) (w : World) (hr0 : Kd.C k48 w A0 l0.length l0) (hc0 : l0.length ≤ c0) (hr1 : Kd.C k48 w A1 l1.length l1) (hc1 : l1.length ≤ c1) (h : laws_eqEdgeS.f k l0 l1 = some r) :
  Calls Try.prog 26 #[.slice A0 l0.length c0, .slice A1 l1.length c1] w fun e w' => e = .returned (.bool r) ∧ Below w.heap.size w w' := by
 have hu48 := Try.underlying48; have HR0 := Aside0.mk hr0; have HC0 := Aside0.mk hc0; clear hr0 hc0; have HR1 := Aside0.mk hr1; have HC1 := Aside0.mk hc1; clear hr1 hc1; have HB := Aside0.mk (Below.refl w.heap.size w); have H : (if (l0.length : Int) = (l1.length : Int) then (laws_eqEdgeS.l0 k l0 l1 0) else (some false)) = some r := h; clear h
 by_cases c3 : (l0.length : Int) = (l1.length : Int)
 ·rw [if_pos c3] at H; have ak : ((l0.length : Int) == (l1.length : Int)) = true := beq_iff_eq.mpr c3; have al : ((l0.length : Int) != (l1.length : Int)) = false := bne_eq_false_iff_eq.mpr c3
  have am : (l0.length == l1.length) = true := by first | simpa using c3 | (simp at c3 ⊢; omega)
  clear c3; have H' := Aside0.mk H; clear H
  go_enter Try.func26, Try.ntmps26
  go_wp2
  go_loopg [5] k (fun kq v5 w' => ∃ (x5_1 : Int), v5 = .int .i64 x5_1 ∧ Aside0 (laws_eqEdgeS.l0 kq l0 l1 x5_1 = some r) ∧ Aside0 (kq ≤ k) ∧ Aside0 (Below w.heap.size w w'))
  case atStart => exact ⟨(0), vv, H', ⟨Nat.le_refl _⟩, ⟨zS HB.out⟩⟩
  case round =>
   clear H'
   try clear c1
   try clear c2
   try clear p2
   try clear c3
   try clear ak
   try clear al
   try clear am
   obtain ⟨x5_1, rfl, HA, HK1, HB⟩ := hrel
   cases gk with
   | zero => exact absurd HA.out (by simp [laws_eqEdgeS.l0])
   | succ k1 =>
    have H := HA.out; clear HA; simp only [laws_eqEdgeS.l0] at H
    by_cases c4 : x5_1 < (l0.length : Int)
    ·rw [if_pos c4] at H; have ap : decide (x5_1 < (l0.length : Int)) = true := decide_eq_true c4; clear c4
     by_cases c5 : 0 ≤ x5_1
     ·rw [if_pos c5] at H; have aq : decide (0 ≤ x5_1) = true := decide_eq_true c5; clear c5
      by_cases c6 : x5_1 < (l1.length : Int)
      ·rw [if_pos c6] at H; have ar : decide (x5_1 < (l1.length : Int)) = true := decide_eq_true c6; clear c6; replace H := bI H; obtain ⟨an, ao, H⟩ := H; replace H : (if an = true then (laws_eqEdgeS.l0 k1 l0 l1 (wrap64 (x5_1 + 1))) else (some false)) = some r := H; have A7 := Aside0.mk ao; clear ao
       by_cases c8 : an = true
       ·subst c8
        have H1 : (laws_eqEdgeS.l0 k1 l0 l1 (wrap64 (x5_1 + 1))) = some r := by rw [if_pos rfl] at H; exact H
        clear H; have H := H1; clear H1; have H' := Aside0.mk H; clear H
        try go_wp2
        replace HB := Aside0.mk (below_drew1 HB.out); have ai : 0 ≤ (x5_1 : Int) := oD; have q313 : x5_1 < (l0.length : Int) := oD; obtain ⟨ad313, e313, aa, ab, ac, ad⟩ := at_T48 HR0.out x5_1 ai q313; have hw313_3 := ad; have hw313_2 := ac; have hw313_1 := ab; have hw313_0 := aa
        cases e313
        replace aa := ct_ HB aa; replace ab := ct_ HB ab; replace ac := ct_ HB ac; replace ad := ct_ HB ad; replace ai := eq_true ai; replace q313 := eq_true q313; have aj : 0 ≤ (x5_1 : Int) := oD; have q314 : x5_1 < (l1.length : Int) := oD; obtain ⟨ad314, e314, ae, af, ag, ah⟩ := at_T48 HR1.out x5_1 aj q314; have hw314_3 := ah; have hw314_2 := ag; have hw314_1 := af; have hw314_0 := ae
        cases e314
        replace ae := ct_ HB ae; replace af := ct_ HB af; replace ag := ct_ HB ag; replace ah := ct_ HB ah; replace aj := eq_true aj; replace q314 := eq_true q314; refine start_ (n := 10) (S := fun w' => w'.cell? (ad313.add ((x5_1).toNat * 4)) = some (.int .i64 ((rd_T48 l0 x5_1).f0)) ∧ w'.cell? ⟨(ad313.add ((x5_1).toNat * 4)).block, (ad313.add ((x5_1).toNat * 4)).off + 1, none⟩ = some (.int .i64 ((rd_T48 l0 x5_1).f1)) ∧ w'.cell? ⟨(ad313.add ((x5_1).toNat * 4)).block, (ad313.add ((x5_1).toNat * 4)).off + 2, none⟩ = some (.int .i64 ((rd_T48 l0 x5_1).f2)) ∧ w'.cell? ⟨(ad313.add ((x5_1).toNat * 4)).block, (ad313.add ((x5_1).toNat * 4)).off + 3, none⟩ = some (.bool ((rd_T48 l0 x5_1).f3)) ∧ w'.cell? (ad314.add ((x5_1).toNat * 4)) = some (.int .i64 ((rd_T48 l1 x5_1).f0)) ∧ w'.cell? ⟨(ad314.add ((x5_1).toNat * 4)).block, (ad314.add ((x5_1).toNat * 4)).off + 1, none⟩ = some (.int .i64 ((rd_T48 l1 x5_1).f1)) ∧ w'.cell? ⟨(ad314.add ((x5_1).toNat * 4)).block, (ad314.add ((x5_1).toNat * 4)).off + 2, none⟩ = some (.int .i64 ((rd_T48 l1 x5_1).f2)) ∧ w'.cell? ⟨(ad314.add ((x5_1).toNat * 4)).block, (ad314.add ((x5_1).toNat * 4)).off + 3, none⟩ = some (.bool ((rd_T48 l1 x5_1).f3))) (ds := []) bl0 (by kernel_rfl) rfl rfl ⟨(ct_ HB hw313_0), (ct_ HB hw313_1), (ct_ HB hw313_2), (ct_ HB hw313_3), (ct_ HB hw314_0), (ct_ HB hw314_1), (ct_ HB hw314_2), (ct_ HB hw314_3)⟩ (fun hHeld => ?_); refine with_tabW laws_eqEdgeS.tab6 laws_eqEdgeS.bits6 (fun HT_ HW_ => ?_); generalize wr.drew = w9 at HB aa ab ac ad ae af ag ah hHeld ⊢
        refine pv_ 0 (some 17) bl1 HT_ ?_
        refine pv_ 1 (some 18) bl2 HT_ ?_
        refine pv_ 2 (some 19) bl3 HT_ ?_
        refine pv_ 4 (some 21) bl4 HT_ ?_
        refine pv_ 5 (some 22) bl5 HT_ ?_
        refine pv_ 6 (some 23) bl6 HT_ ?_
        refine tk_ 3 (some 20) bl7 HT_ HW_ hHeld ?_
        refine tk_ 7 (some 24) bl8 HT_ HW_ hHeld ?_
        refine on_ 8 (some 25) bl9 HT_ (fun K hK => ?_); refine gs_ Try.func46 #[.agg #[.int .i64 ((rd_T48 l0 x5_1).f0), .int .i64 ((rd_T48 l0 x5_1).f1), .int .i64 ((rd_T48 l0 x5_1).f2), .bool ((rd_T48 l0 x5_1).f3)], .agg #[.int .i64 ((rd_T48 l1 x5_1).f0), .int .i64 ((rd_T48 l1 x5_1).f1), .int .i64 ((rd_T48 l1 x5_1).f2), .bool ((rd_T48 l1 x5_1).f3)]] ?_
        with_reducible refine (laws_eqEdge.calls ((rd_T48 l0 x5_1).f0) ((rd_T48 l0 x5_1).f1) ((rd_T48 l0 x5_1).f2) ((rd_T48 l0 x5_1).f3) ((rd_T48 l1 x5_1).f0) ((rd_T48 l1 x5_1).f1) ((rd_T48 l1 x5_1).f2) ((rd_T48 l1 x5_1).f3) true _ A7.out).mono ?_
        rintro e au ⟨rfl, hb⟩; refine ⟨_, rfl, ?_⟩; replace HB := xS HB hb
        (try clear hb)
        (try clear hb2)
        (try clear hk)
        (try clear hi)
        refine hK.out _ _ ⟨(ct_ HB hw313_0), (ct_ HB hw313_1), (ct_ HB hw313_2), (ct_ HB hw313_3), (ct_ HB hw314_0), (ct_ HB hw314_1), (ct_ HB hw314_2), (ct_ HB hw314_3)⟩ (fun hHeld => ?_); clear hK K; refine nr_ (some 25) ?_
        refine pv_ 9 (some 26) bl10 HT_ ?_
        refine done_ (done_of HT_.out (by kernel_rfl)) ?_
        try go_wp2
        go_roundg k1
        case measure => have := HK1.out; omega
        case rel => exact ⟨(wrap64 (x5_1 + 1)), vv, H', ⟨by have := HK1.out; omega⟩, ⟨zS HB.out⟩⟩
       ·replace c8 := Bool.eq_false_iff.mpr c8; subst c8
        have H1 : (some false) = some r := by rw [if_neg (show ¬ (false = true) by decide)] at H; exact H
        clear H; have H := H1; clear H1; obtain rfl := Option.some.inj H
        try go_wp2
        replace HB := Aside0.mk (below_drew1 HB.out); have ai : 0 ≤ (x5_1 : Int) := oD; have q313 : x5_1 < (l0.length : Int) := oD; obtain ⟨ad313, e313, aa, ab, ac, ad⟩ := at_T48 HR0.out x5_1 ai q313; have hw313_3 := ad; have hw313_2 := ac; have hw313_1 := ab; have hw313_0 := aa
        cases e313
        replace aa := ct_ HB aa; replace ab := ct_ HB ab; replace ac := ct_ HB ac; replace ad := ct_ HB ad; replace ai := eq_true ai; replace q313 := eq_true q313; have aj : 0 ≤ (x5_1 : Int) := oD; have q314 : x5_1 < (l1.length : Int) := oD; obtain ⟨ad314, e314, ae, af, ag, ah⟩ := at_T48 HR1.out x5_1 aj q314; have hw314_3 := ah; have hw314_2 := ag; have hw314_1 := af; have hw314_0 := ae
        cases e314
        replace ae := ct_ HB ae; replace af := ct_ HB af; replace ag := ct_ HB ag; replace ah := ct_ HB ah; replace aj := eq_true aj; replace q314 := eq_true q314; refine start_ (n := 10) (S := fun w' => w'.cell? (ad313.add ((x5_1).toNat * 4)) = some (.int .i64 ((rd_T48 l0 x5_1).f0)) ∧ w'.cell? ⟨(ad313.add ((x5_1).toNat * 4)).block, (ad313.add ((x5_1).toNat * 4)).off + 1, none⟩ = some (.int .i64 ((rd_T48 l0 x5_1).f1)) ∧ w'.cell? ⟨(ad313.add ((x5_1).toNat * 4)).block, (ad313.add ((x5_1).toNat * 4)).off + 2, none⟩ = some (.int .i64 ((rd_T48 l0 x5_1).f2)) ∧ w'.cell? ⟨(ad313.add ((x5_1).toNat * 4)).block, (ad313.add ((x5_1).toNat * 4)).off + 3, none⟩ = some (.bool ((rd_T48 l0 x5_1).f3)) ∧ w'.cell? (ad314.add ((x5_1).toNat * 4)) = some (.int .i64 ((rd_T48 l1 x5_1).f0)) ∧ w'.cell? ⟨(ad314.add ((x5_1).toNat * 4)).block, (ad314.add ((x5_1).toNat * 4)).off + 1, none⟩ = some (.int .i64 ((rd_T48 l1 x5_1).f1)) ∧ w'.cell? ⟨(ad314.add ((x5_1).toNat * 4)).block, (ad314.add ((x5_1).toNat * 4)).off + 2, none⟩ = some (.int .i64 ((rd_T48 l1 x5_1).f2)) ∧ w'.cell? ⟨(ad314.add ((x5_1).toNat * 4)).block, (ad314.add ((x5_1).toNat * 4)).off + 3, none⟩ = some (.bool ((rd_T48 l1 x5_1).f3))) (ds := []) bl0 (by kernel_rfl) rfl rfl ⟨(ct_ HB hw313_0), (ct_ HB hw313_1), (ct_ HB hw313_2), (ct_ HB hw313_3), (ct_ HB hw314_0), (ct_ HB hw314_1), (ct_ HB hw314_2), (ct_ HB hw314_3)⟩ (fun hHeld => ?_); refine with_tabW laws_eqEdgeS.tab6 laws_eqEdgeS.bits6 (fun HT_ HW_ => ?_); generalize wr.drew = av at HB aa ab ac ad ae af ag ah hHeld ⊢
        refine pv_ 0 (some 17) bl1 HT_ ?_
        refine pv_ 1 (some 18) bl2 HT_ ?_
        refine pv_ 2 (some 19) bl3 HT_ ?_
        refine pv_ 4 (some 21) bl4 HT_ ?_
        refine pv_ 5 (some 22) bl5 HT_ ?_
        refine pv_ 6 (some 23) bl6 HT_ ?_
        refine tk_ 3 (some 20) bl7 HT_ HW_ hHeld ?_
        refine tk_ 7 (some 24) bl8 HT_ HW_ hHeld ?_
        refine on_ 8 (some 25) bl9 HT_ (fun K hK => ?_); refine gs_ Try.func46 #[.agg #[.int .i64 ((rd_T48 l0 x5_1).f0), .int .i64 ((rd_T48 l0 x5_1).f1), .int .i64 ((rd_T48 l0 x5_1).f2), .bool ((rd_T48 l0 x5_1).f3)], .agg #[.int .i64 ((rd_T48 l1 x5_1).f0), .int .i64 ((rd_T48 l1 x5_1).f1), .int .i64 ((rd_T48 l1 x5_1).f2), .bool ((rd_T48 l1 x5_1).f3)]] ?_
        with_reducible refine (laws_eqEdge.calls ((rd_T48 l0 x5_1).f0) ((rd_T48 l0 x5_1).f1) ((rd_T48 l0 x5_1).f2) ((rd_T48 l0 x5_1).f3) ((rd_T48 l1 x5_1).f0) ((rd_T48 l1 x5_1).f1) ((rd_T48 l1 x5_1).f2) ((rd_T48 l1 x5_1).f3) false _ A7.out).mono ?_
        rintro e aw ⟨rfl, hb⟩; refine ⟨_, rfl, ?_⟩; replace HB := xS HB hb
        (try clear hb)
        (try clear hb2)
        (try clear hk)
        (try clear hi)
        refine hK.out _ _ ⟨(ct_ HB hw313_0), (ct_ HB hw313_1), (ct_ HB hw313_2), (ct_ HB hw313_3), (ct_ HB hw314_0), (ct_ HB hw314_1), (ct_ HB hw314_2), (ct_ HB hw314_3)⟩ (fun hHeld => ?_); clear hK K; refine nr_ (some 25) ?_
        refine pv_ 9 (some 26) bl10 HT_ ?_
        refine done_ (done_of HT_.out (by kernel_rfl)) ?_
        try go_wp2
        go_ret; exact ⟨vw, zS HB.out⟩
      ·rw [if_neg c6] at H; exact absurd H (by simp)
     ·rw [if_neg c5] at H; exact absurd H (by simp)
    ·rw [if_neg c4] at H; have ap : decide (x5_1 < (l0.length : Int)) = false := decide_eq_false c4; clear c4; obtain rfl := Option.some.inj H
     go_wp2
     go_ret; exact ⟨vw, zS HB.out⟩
 ·rw [if_neg c3] at H; have ak : ((l0.length : Int) == (l1.length : Int)) = false := beq_eq_false_iff_ne.mpr c3; have al : ((l0.length : Int) != (l1.length : Int)) = true := bne_iff_ne.mpr c3
  have am : (l0.length == l1.length) = false := by first | simpa using c3 | (simp at c3 ⊢; omega)
  obtain rfl := Option.some.inj H
  go_enter Try.func26, Try.ntmps26
  go_wp2
  go_ret; exact ⟨vw, zS HB.out⟩


/-! ### laws_eqAuto: function 8 -/
def laws_eqAuto.f (k : Nat) (a0_0 : Int) (a0_1 : Int) (a0_2 : Int) (l0_3 : List (S48)) (a1_0 : Int) (a1_1 : Int) (a1_2 : Int) (l1_3 : List (S48)) : Option (Bool) := if a0_0 = a1_0 then (if a0_1 = a1_1 then (if a0_2 = a1_2 then ((laws_eqEdgeS.f k l0_3 l1_3).bind fun t318 => (if t318 = true then (some true) else (some false))) else (some false)) else (some false)) else (some false)
theorem laws_eqAuto.mono : ∀ a0 a1 a2 a3 a4 a5 a6 a7 k, LeO (laws_eqAuto.f k a0 a1 a2 a3 a4 a5 a6 a7) (laws_eqAuto.f (k + 1) a0 a1 a2 a3 a4 a5 a6 a7) := by
 intro a0 a1 a2 a3 a4 a5 a6 a7 k
 unfold laws_eqAuto.f
 repeat' first
   | (with_reducible exact laws_eqEdgeS.mono _ _ _)
   | (with_reducible exact LeO.refl _)
   | (with_reducible exact LeO.none _)
   | (with_reducible refine LeO.ite ?_ ?_)
   | (with_reducible refine LeO.bind ?_ (fun _ => ?_))
   | exact laws_eqEdgeS.mono _ _ _
   | exact LeO.none _
   | refine LeO.ite ?_ ?_
   | refine LeO.bind ?_ (fun _ => ?_)
open Go.Proofs.Ytnflbjdmbaaokaa.Short2 in
set_option maxHeartbeats 8000000 in
set_option maxRecDepth 100000 in
theorem laws_eqAuto.calls (k : Nat) (a0_0 : Int) (a0_1 : Int) (a0_2 : Int) (A0_3 : Option Addr) (c0_3 : Nat) (l0_3 : List (S48)) (a1_0 : Int) (a1_1 : Int) (a1_2 : Int) (A1_3 : Option Addr) (c1_3 : Nat) (l1_3 : List (S48)) (r : Bool) (w : World) (hr0_3 : Kd.C k48 w A0_3 l0_3.length l0_3) (hc0_3 : l0_3.length ≤ c0_3) (hr1_3 : Kd.C k48 w A1_3 l1_3.length l1_3) (hc1_3 : l1_3.length ≤ c1_3) (h : laws_eqAuto.f k a0_0 a0_1 a0_2 l0_3 a1_0 a1_1 a1_2 l1_3 = some r) :
  Calls Try.prog 8 #[.agg #[.int .i64 a0_0, .int .i64 a0_1, .int .i64 a0_2, .slice A0_3 l0_3.length c0_3], .agg #[.int .i64 a1_0, .int .i64 a1_1, .int .i64 a1_2, .slice A1_3 l1_3.length c1_3]] w fun e w' => e = .returned (.bool r) ∧ Below w.heap.size w w' := by
 have hu28 := Try.underlying28; have HR0_3 := Aside0.mk hr0_3; have HC0_3 := Aside0.mk hc0_3; clear hr0_3 hc0_3; have HR1_3 := Aside0.mk hr1_3; have HC1_3 := Aside0.mk hc1_3; clear hr1_3 hc1_3; have HB := Aside0.mk (Below.refl w.heap.size w); have H : (if a0_0 = a1_0 then (if a0_1 = a1_1 then (if a0_2 = a1_2 then ((laws_eqEdgeS.f k l0_3 l1_3).bind fun ak => (if ak = true then (some true) else (some false))) else (some false)) else (some false)) else (some false)) = some r := h; clear h
 by_cases c3 : a0_0 = a1_0
 ·rw [if_pos c3] at H; have am : (a0_0 == a1_0) = true := beq_iff_eq.mpr c3; have an : (a0_0 != a1_0) = false := bne_eq_false_iff_eq.mpr c3; clear c3
  by_cases c4 : a0_1 = a1_1
  ·rw [if_pos c4] at H; have ao : (a0_1 == a1_1) = true := beq_iff_eq.mpr c4; have ap : (a0_1 != a1_1) = false := bne_eq_false_iff_eq.mpr c4; clear c4
   by_cases c5 : a0_2 = a1_2
   ·rw [if_pos c5] at H; have aq : (a0_2 == a1_2) = true := beq_iff_eq.mpr c5; have ar : (a0_2 != a1_2) = false := bne_eq_false_iff_eq.mpr c5; clear c5; replace H := bI H; obtain ⟨ak, al, H⟩ := H; replace H : (if ak = true then (some true) else (some false)) = some r := H; have A6 := Aside0.mk al; clear al
    by_cases c7 : ak = true
    ·subst c7
     have H1 : (some true) = some r := by rw [if_pos rfl] at H; exact H
     clear H; have H := H1; clear H1; obtain rfl := Option.some.inj H
     go_enter Try.func8, Try.ntmps8
     go_wp2_with (first | ((with_reducible refine gate_dst (N := 2) rfl ?_); refine bx_ 2 #[.int .i64 a0_0, .int .i64 a0_1, .int .i64 a0_2, .slice A0_3 l0_3.length c0_3] 28 ?_; intro ae hg w8 hbox hb; have aa := Aside0.mk (hbox); have af := xG HB hg; have ag := xG HB hg; replace HB := xS HB hb; clear hb hbox hg) | ((with_reducible refine gate_dst (N := 3) rfl ?_); refine bx_ 3 #[.int .i64 a1_0, .int .i64 a1_1, .int .i64 a1_2, .slice A1_3 l1_3.length c1_3] 28 ?_; intro ah hg w9 hbox hb; have ac := Aside0.mk (hbox); have ai := xG HB hg; have aj := xG HB hg; replace HB := xS HB hb; have ab := xN aa hg; have ad := xM aa hg; replace aa := xB aa hb; clear hb hbox hg; obtain ⟨bY, bZ⟩ := nn ab; obtain ⟨au, av, aw, ax, ay, az, aA, aB⟩ := cz4 aa; obtain ⟨aC, aD, aE, aF, aG, aH, aI, aJ⟩ := cz4 ac) | ((with_reducible refine gate_callee (f := 26) rfl ?_); refine gl_ (some 24) Try.func26 #[.slice A0_3 l0_3.length c0_3, .slice A1_3 l1_3.length c1_3] ?_; (with_reducible refine (laws_eqEdgeS.calls k _ _ l0_3 _ _ l1_3 true _ ?side1 ?side2 ?side3 ?side4 A6.out).mono ?_); (case side1 => exact zC (Kd.C_below HR0_3.out HB.out)); (case side2 => exact HC0_3.out); (case side3 => exact zC (Kd.C_below HR1_3.out HB.out)); (case side4 => exact HC1_3.out); rintro e ci ⟨rfl, hb⟩; refine ⟨_, rfl, ?_⟩; replace aa := xB aa hb; replace ac := xB ac hb; replace HB := xS HB hb; (try clear hb); (try clear hb2); (try clear hk); (try clear hi)))
     go_ret; exact ⟨vw, zS HB.out⟩
    ·replace c7 := Bool.eq_false_iff.mpr c7; subst c7
     have H1 : (some false) = some r := by rw [if_neg (show ¬ (false = true) by decide)] at H; exact H
     clear H; have H := H1; clear H1; obtain rfl := Option.some.inj H
     go_enter Try.func8, Try.ntmps8
     go_wp2_with (first | ((with_reducible refine gate_dst (N := 2) rfl ?_); refine bx_ 2 #[.int .i64 a0_0, .int .i64 a0_1, .int .i64 a0_2, .slice A0_3 l0_3.length c0_3] 28 ?_; intro ae hg cj hbox hb; have aa := Aside0.mk (hbox); have af := xG HB hg; have ag := xG HB hg; replace HB := xS HB hb; clear hb hbox hg) | ((with_reducible refine gate_dst (N := 3) rfl ?_); refine bx_ 3 #[.int .i64 a1_0, .int .i64 a1_1, .int .i64 a1_2, .slice A1_3 l1_3.length c1_3] 28 ?_; intro ah hg ck hbox hb; have ac := Aside0.mk (hbox); have ai := xG HB hg; have aj := xG HB hg; replace HB := xS HB hb; have ab := xN aa hg; have ad := xM aa hg; replace aa := xB aa hb; clear hb hbox hg; obtain ⟨ca, cb⟩ := nn ab; obtain ⟨aK, aL, aM, aN, aO, aP, aQ, aR⟩ := cz4 aa; obtain ⟨aS, aT, aU, aV, aW, aX, aY, aZ⟩ := cz4 ac) | ((with_reducible refine gate_callee (f := 26) rfl ?_); refine gl_ (some 24) Try.func26 #[.slice A0_3 l0_3.length c0_3, .slice A1_3 l1_3.length c1_3] ?_; (with_reducible refine (laws_eqEdgeS.calls k _ _ l0_3 _ _ l1_3 false _ ?side1 ?side2 ?side3 ?side4 A6.out).mono ?_); (case side1 => exact zC (Kd.C_below HR0_3.out HB.out)); (case side2 => exact HC0_3.out); (case side3 => exact zC (Kd.C_below HR1_3.out HB.out)); (case side4 => exact HC1_3.out); rintro e cl ⟨rfl, hb⟩; refine ⟨_, rfl, ?_⟩; replace aa := xB aa hb; replace ac := xB ac hb; replace HB := xS HB hb; (try clear hb); (try clear hb2); (try clear hk); (try clear hi)))
     go_ret; exact ⟨vw, zS HB.out⟩
   ·rw [if_neg c5] at H; have aq : (a0_2 == a1_2) = false := beq_eq_false_iff_ne.mpr c5; have ar : (a0_2 != a1_2) = true := bne_iff_ne.mpr c5; obtain rfl := Option.some.inj H
    go_enter Try.func8, Try.ntmps8
    go_wp2_with (first | ((with_reducible refine gate_dst (N := 2) rfl ?_); refine bx_ 2 #[.int .i64 a0_0, .int .i64 a0_1, .int .i64 a0_2, .slice A0_3 l0_3.length c0_3] 28 ?_; intro ae hg cm hbox hb; have aa := Aside0.mk (hbox); have af := xG HB hg; have ag := xG HB hg; replace HB := xS HB hb; clear hb hbox hg) | ((with_reducible refine gate_dst (N := 3) rfl ?_); refine bx_ 3 #[.int .i64 a1_0, .int .i64 a1_1, .int .i64 a1_2, .slice A1_3 l1_3.length c1_3] 28 ?_; intro ah hg cn hbox hb; have ac := Aside0.mk (hbox); have ai := xG HB hg; have aj := xG HB hg; replace HB := xS HB hb; have ab := xN aa hg; have ad := xM aa hg; replace aa := xB aa hb; clear hb hbox hg; obtain ⟨cc, cd⟩ := nn ab; obtain ⟨ba, bb, bc, bd, be, bf, bg, bh⟩ := cz4 aa; obtain ⟨bi, bj, bk, bl, bm, bn, bo, bp⟩ := cz4 ac))
    go_ret; exact ⟨vw, zS HB.out⟩
  ·rw [if_neg c4] at H; have ao : (a0_1 == a1_1) = false := beq_eq_false_iff_ne.mpr c4; have ap : (a0_1 != a1_1) = true := bne_iff_ne.mpr c4; obtain rfl := Option.some.inj H
   go_enter Try.func8, Try.ntmps8
   go_wp2_with (first | ((with_reducible refine gate_dst (N := 2) rfl ?_); refine bx_ 2 #[.int .i64 a0_0, .int .i64 a0_1, .int .i64 a0_2, .slice A0_3 l0_3.length c0_3] 28 ?_; intro ae hg co hbox hb; have aa := Aside0.mk (hbox); have af := xG HB hg; have ag := xG HB hg; replace HB := xS HB hb; clear hb hbox hg) | ((with_reducible refine gate_dst (N := 3) rfl ?_); refine bx_ 3 #[.int .i64 a1_0, .int .i64 a1_1, .int .i64 a1_2, .slice A1_3 l1_3.length c1_3] 28 ?_; intro ah hg cp hbox hb; have ac := Aside0.mk (hbox); have ai := xG HB hg; have aj := xG HB hg; replace HB := xS HB hb; have ab := xN aa hg; have ad := xM aa hg; replace aa := xB aa hb; clear hb hbox hg; obtain ⟨ce, cf⟩ := nn ab; obtain ⟨bq, br, bs, bt, bu, bv, bw, bx⟩ := cz4 aa; obtain ⟨bz, bA, bB, bC, bD, bE, bF, bG⟩ := cz4 ac))
   go_ret; exact ⟨vw, zS HB.out⟩
 ·rw [if_neg c3] at H; have am : (a0_0 == a1_0) = false := beq_eq_false_iff_ne.mpr c3; have an : (a0_0 != a1_0) = true := bne_iff_ne.mpr c3; obtain rfl := Option.some.inj H
  go_enter Try.func8, Try.ntmps8
  go_wp2_with (first | ((with_reducible refine gate_dst (N := 2) rfl ?_); refine bx_ 2 #[.int .i64 a0_0, .int .i64 a0_1, .int .i64 a0_2, .slice A0_3 l0_3.length c0_3] 28 ?_; intro ae hg cq hbox hb; have aa := Aside0.mk (hbox); have af := xG HB hg; have ag := xG HB hg; replace HB := xS HB hb; clear hb hbox hg) | ((with_reducible refine gate_dst (N := 3) rfl ?_); refine bx_ 3 #[.int .i64 a1_0, .int .i64 a1_1, .int .i64 a1_2, .slice A1_3 l1_3.length c1_3] 28 ?_; intro ah hg cr hbox hb; have ac := Aside0.mk (hbox); have ai := xG HB hg; have aj := xG HB hg; replace HB := xS HB hb; have ab := xN aa hg; have ad := xM aa hg; replace aa := xB aa hb; clear hb hbox hg; obtain ⟨cg, ch⟩ := nn ab; obtain ⟨bH, bJ, bK, bL, bM, bN, bO, bP⟩ := cz4 aa; obtain ⟨bQ, bR, bS, bT, bU, bV, bW, bX⟩ := cz4 ac))
  go_ret; exact ⟨vw, zS HB.out⟩


/-! ### laws_eqGEdge: function 47 -/
def laws_eqGEdge.f (a0_0 : Int) (a0_1 : Int) (a0_2 : Int) (a0_3 : Int) (a1_0 : Int) (a1_1 : Int) (a1_2 : Int) (a1_3 : Int) : Option (Bool) := if a0_0 = a1_0 then (if a0_1 = a1_1 then (if a0_2 = a1_2 then (if a0_3 = a1_3 then (some true) else (some false)) else (some false)) else (some false)) else (some false)
open Go.Proofs.Ytnflbjdmbaaokaa.Short2 in
set_option maxHeartbeats 8000000 in
set_option maxRecDepth 100000 in
theorem laws_eqGEdge.calls (a0_0 : Int) (a0_1 : Int) (a0_2 : Int) (a0_3 : Int) (a1_0 : Int) (a1_1 : Int) (a1_2 : Int) (a1_3 : Int) (r : Bool) (w : World) (h : laws_eqGEdge.f a0_0 a0_1 a0_2 a0_3 a1_0 a1_1 a1_2 a1_3 = some r) :
  Calls Try.prog 47 #[.agg #[.int .i64 a0_0, .int .i64 a0_1, .int .i64 a0_2, .int .i64 a0_3], .agg #[.int .i64 a1_0, .int .i64 a1_1, .int .i64 a1_2, .int .i64 a1_3]] w fun e w' => e = .returned (.bool r) ∧ Below w.heap.size w w' := by
 have hu46 := Try.underlying46; have HB := Aside0.mk (Below.refl w.heap.size w); have H : (if a0_0 = a1_0 then (if a0_1 = a1_1 then (if a0_2 = a1_2 then (if a0_3 = a1_3 then (some true) else (some false)) else (some false)) else (some false)) else (some false)) = some r := h; clear h
 by_cases c3 : a0_0 = a1_0
 ·rw [if_pos c3] at H; have ak : (a0_0 == a1_0) = true := beq_iff_eq.mpr c3; have al : (a0_0 != a1_0) = false := bne_eq_false_iff_eq.mpr c3; clear c3
  by_cases c4 : a0_1 = a1_1
  ·rw [if_pos c4] at H; have am : (a0_1 == a1_1) = true := beq_iff_eq.mpr c4; have an : (a0_1 != a1_1) = false := bne_eq_false_iff_eq.mpr c4; clear c4
   by_cases c5 : a0_2 = a1_2
   ·rw [if_pos c5] at H; have ao : (a0_2 == a1_2) = true := beq_iff_eq.mpr c5; have ap : (a0_2 != a1_2) = false := bne_eq_false_iff_eq.mpr c5; clear c5
    by_cases c6 : a0_3 = a1_3
    ·rw [if_pos c6] at H; have aq : (a0_3 == a1_3) = true := beq_iff_eq.mpr c6; have ar : (a0_3 != a1_3) = false := bne_eq_false_iff_eq.mpr c6; clear c6; obtain rfl := Option.some.inj H
     go_enter Try.func47, Try.ntmps47
     go_wp2_with (first | ((with_reducible refine gate_dst (N := 2) rfl ?_); refine bx_ 2 #[.int .i64 a0_0, .int .i64 a0_1, .int .i64 a0_2, .int .i64 a0_3] 46 ?_; intro ae hg w7 hbox hb; have aa := Aside0.mk (hbox); have af := xG HB hg; have ag := xG HB hg; replace HB := xS HB hb; clear hb hbox hg) | ((with_reducible refine gate_dst (N := 3) rfl ?_); refine bx_ 3 #[.int .i64 a1_0, .int .i64 a1_1, .int .i64 a1_2, .int .i64 a1_3] 46 ?_; intro ah hg w8 hbox hb; have ac := Aside0.mk (hbox); have ai := xG HB hg; have aj := xG HB hg; replace HB := xS HB hb; have ab := xN aa hg; have ad := xM aa hg; replace aa := xB aa hb; clear hb hbox hg; obtain ⟨cf, cg⟩ := nn ab; obtain ⟨au, av, aw, ax, ay, az, aA, aB⟩ := cz4 aa; obtain ⟨aC, aD, aE, aF, aG, aH, aI, aJ⟩ := cz4 ac))
     go_ret; exact ⟨vw, zS HB.out⟩
    ·rw [if_neg c6] at H; have aq : (a0_3 == a1_3) = false := beq_eq_false_iff_ne.mpr c6; have ar : (a0_3 != a1_3) = true := bne_iff_ne.mpr c6; obtain rfl := Option.some.inj H
     go_enter Try.func47, Try.ntmps47
     go_wp2_with (first | ((with_reducible refine gate_dst (N := 2) rfl ?_); refine bx_ 2 #[.int .i64 a0_0, .int .i64 a0_1, .int .i64 a0_2, .int .i64 a0_3] 46 ?_; intro ae hg ch hbox hb; have aa := Aside0.mk (hbox); have af := xG HB hg; have ag := xG HB hg; replace HB := xS HB hb; clear hb hbox hg) | ((with_reducible refine gate_dst (N := 3) rfl ?_); refine bx_ 3 #[.int .i64 a1_0, .int .i64 a1_1, .int .i64 a1_2, .int .i64 a1_3] 46 ?_; intro ah hg ci hbox hb; have ac := Aside0.mk (hbox); have ai := xG HB hg; have aj := xG HB hg; replace HB := xS HB hb; have ab := xN aa hg; have ad := xM aa hg; replace aa := xB aa hb; clear hb hbox hg; obtain ⟨bX, bY⟩ := nn ab; obtain ⟨aK, aL, aM, aN, aO, aP, aQ, aR⟩ := cz4 aa; obtain ⟨aS, aT, aU, aV, aW, aX, aY, aZ⟩ := cz4 ac))
     go_ret; exact ⟨vw, zS HB.out⟩
   ·rw [if_neg c5] at H; have ao : (a0_2 == a1_2) = false := beq_eq_false_iff_ne.mpr c5; have ap : (a0_2 != a1_2) = true := bne_iff_ne.mpr c5; obtain rfl := Option.some.inj H
    go_enter Try.func47, Try.ntmps47
    go_wp2_with (first | ((with_reducible refine gate_dst (N := 2) rfl ?_); refine bx_ 2 #[.int .i64 a0_0, .int .i64 a0_1, .int .i64 a0_2, .int .i64 a0_3] 46 ?_; intro ae hg cj hbox hb; have aa := Aside0.mk (hbox); have af := xG HB hg; have ag := xG HB hg; replace HB := xS HB hb; clear hb hbox hg) | ((with_reducible refine gate_dst (N := 3) rfl ?_); refine bx_ 3 #[.int .i64 a1_0, .int .i64 a1_1, .int .i64 a1_2, .int .i64 a1_3] 46 ?_; intro ah hg ck hbox hb; have ac := Aside0.mk (hbox); have ai := xG HB hg; have aj := xG HB hg; replace HB := xS HB hb; have ab := xN aa hg; have ad := xM aa hg; replace aa := xB aa hb; clear hb hbox hg; obtain ⟨bZ, ca⟩ := nn ab; obtain ⟨ba, bb, bc, bd, be, bf, bg, bh⟩ := cz4 aa; obtain ⟨bi, bj, bk, bl, bm, bn, bo, bp⟩ := cz4 ac))
    go_ret; exact ⟨vw, zS HB.out⟩
  ·rw [if_neg c4] at H; have am : (a0_1 == a1_1) = false := beq_eq_false_iff_ne.mpr c4; have an : (a0_1 != a1_1) = true := bne_iff_ne.mpr c4; obtain rfl := Option.some.inj H
   go_enter Try.func47, Try.ntmps47
   go_wp2_with (first | ((with_reducible refine gate_dst (N := 2) rfl ?_); refine bx_ 2 #[.int .i64 a0_0, .int .i64 a0_1, .int .i64 a0_2, .int .i64 a0_3] 46 ?_; intro ae hg cl hbox hb; have aa := Aside0.mk (hbox); have af := xG HB hg; have ag := xG HB hg; replace HB := xS HB hb; clear hb hbox hg) | ((with_reducible refine gate_dst (N := 3) rfl ?_); refine bx_ 3 #[.int .i64 a1_0, .int .i64 a1_1, .int .i64 a1_2, .int .i64 a1_3] 46 ?_; intro ah hg cm hbox hb; have ac := Aside0.mk (hbox); have ai := xG HB hg; have aj := xG HB hg; replace HB := xS HB hb; have ab := xN aa hg; have ad := xM aa hg; replace aa := xB aa hb; clear hb hbox hg; obtain ⟨cb, cc⟩ := nn ab; obtain ⟨bq, br, bs, bt, bu, bv, bw, bx⟩ := cz4 aa; obtain ⟨bz, bA, bB, bC, bD, bE, bF, bG⟩ := cz4 ac))
   go_ret; exact ⟨vw, zS HB.out⟩
 ·rw [if_neg c3] at H; have ak : (a0_0 == a1_0) = false := beq_eq_false_iff_ne.mpr c3; have al : (a0_0 != a1_0) = true := bne_iff_ne.mpr c3; obtain rfl := Option.some.inj H
  go_enter Try.func47, Try.ntmps47
  go_wp2_with (first | ((with_reducible refine gate_dst (N := 2) rfl ?_); refine bx_ 2 #[.int .i64 a0_0, .int .i64 a0_1, .int .i64 a0_2, .int .i64 a0_3] 46 ?_; intro ae hg cn hbox hb; have aa := Aside0.mk (hbox); have af := xG HB hg; have ag := xG HB hg; replace HB := xS HB hb; clear hb hbox hg) | ((with_reducible refine gate_dst (N := 3) rfl ?_); refine bx_ 3 #[.int .i64 a1_0, .int .i64 a1_1, .int .i64 a1_2, .int .i64 a1_3] 46 ?_; intro ah hg co hbox hb; have ac := Aside0.mk (hbox); have ai := xG HB hg; have aj := xG HB hg; replace HB := xS HB hb; have ab := xN aa hg; have ad := xM aa hg; replace aa := xB aa hb; clear hb hbox hg; obtain ⟨cd, ce⟩ := nn ab; obtain ⟨bH, bI, bJ, bK, bL, bM, bN, bO⟩ := cz4 aa; obtain ⟨bP, bQ, bR, bS, bT, bU, bV, bW⟩ := cz4 ac))
  go_ret; exact ⟨vw, zS HB.out⟩

section
open Go.Proofs.Ytnflbjdmbaaokaa.Short2.T
abbrev laws_eqGEdgeS.bl0 : Array Bool := #[f, f, f, f, f, f, f, f, f, f]
abbrev laws_eqGEdgeS.bl1 : Array Bool := #[t, f, f, f, f, f, f, f, f, f]
abbrev laws_eqGEdgeS.bl2 : Array Bool := #[t, t, f, f, f, f, f, f, f, f]
abbrev laws_eqGEdgeS.bl3 : Array Bool := #[t, t, t, f, f, f, f, f, f, f]
abbrev laws_eqGEdgeS.bl4 : Array Bool := #[t, t, t, f, t, f, f, f, f, f]
abbrev laws_eqGEdgeS.bl5 : Array Bool := #[t, t, t, f, t, t, f, f, f, f]
abbrev laws_eqGEdgeS.bl6 : Array Bool := #[t, t, t, f, t, t, t, f, f, f]
abbrev laws_eqGEdgeS.bl7 : Array Bool := #[t, t, t, t, t, t, t, f, f, f]
abbrev laws_eqGEdgeS.bl8 : Array Bool := #[t, t, t, t, t, t, t, t, f, f]
abbrev laws_eqGEdgeS.bl9 : Array Bool := #[t, t, t, t, t, t, t, t, t, f]
abbrev laws_eqGEdgeS.bl10 : Array Bool := #[t, t, t, t, t, t, t, t, t, t]
end
/-! ### laws_eqGEdgeS: function 27 -/
def laws_eqGEdgeS.l0 : Nat → List (S46) → List (S46) → Int → Option (Bool)
 | 0, _, _, _ => none
 | k + 1, x0, x1, x5 => if x5 < (x0.length : Int) then (if 0 ≤ x5 then (if x5 < (x1.length : Int) then ((laws_eqGEdge.f ((rd_T46 x0 x5).f0) ((rd_T46 x0 x5).f1) ((rd_T46 x0 x5).f2) ((rd_T46 x0 x5).f3) ((rd_T46 x1 x5).f0) ((rd_T46 x1 x5).f1) ((rd_T46 x1 x5).f2) ((rd_T46 x1 x5).f3)).bind fun t323 => (if t323 = true then (laws_eqGEdgeS.l0 k x0 x1 (wrap64 (x5 + 1))) else (some false))) else (none)) else (none)) else (some true)
def laws_eqGEdgeS.f (k : Nat) (l0 : List (S46)) (l1 : List (S46)) : Option (Bool) := if (l0.length : Int) = (l1.length : Int) then (laws_eqGEdgeS.l0 k l0 l1 0) else (some false)
theorem laws_eqGEdgeS.mono_l : ∀ k, (∀ y0 y1 y2, LeO (laws_eqGEdgeS.l0 k y0 y1 y2) (laws_eqGEdgeS.l0 (k + 1) y0 y1 y2))
 | 0 => fun _ _ _ r h => by simp [laws_eqGEdgeS.l0] at h
 | k + 1 => by
  have ih0 := laws_eqGEdgeS.mono_l k
  ·intro y0 y1 y2
   unfold laws_eqGEdgeS.l0
   repeat' first
   | (with_reducible exact ih0 _ _ _)
   | (with_reducible exact LeO.refl _)
   | (with_reducible exact LeO.none _)
   | (with_reducible refine LeO.ite ?_ ?_)
   | (with_reducible refine LeO.bind ?_ (fun _ => ?_))
   | exact ih0 _ _ _
   | exact LeO.none _
   | refine LeO.ite ?_ ?_
   | refine LeO.bind ?_ (fun _ => ?_)
theorem laws_eqGEdgeS.mono : ∀ a0 a1 k, LeO (laws_eqGEdgeS.f k a0 a1) (laws_eqGEdgeS.f (k + 1) a0 a1) := by
 intro a0 a1 k
 have ih0 := laws_eqGEdgeS.mono_l k
 unfold laws_eqGEdgeS.f
 repeat' first
   | (with_reducible exact ih0 _ _ _)
   | (with_reducible exact LeO.refl _)
   | (with_reducible exact LeO.none _)
   | (with_reducible refine LeO.ite ?_ ?_)
   | (with_reducible refine LeO.bind ?_ (fun _ => ?_))
   | exact ih0 _ _ _
   | exact LeO.none _
   | refine LeO.ite ?_ ?_
   | refine LeO.bind ?_ (fun _ => ?_)
def laws_eqGEdgeS.T6 : Bool × List (List Nat × List Nat) := (true, [([], []), ([], []), ([0, 1], [0, 1]), ([2], [2]), ([], []), ([], []), ([4, 5], [4, 5]), ([6], [6]), ([3, 7], [3, 7]), ([8], [8])])
def laws_eqGEdgeS.B6 : List Nat := [0, 0, 3, 7, 0, 0, 48, 112, 255, 511]
theorem laws_eqGEdgeS.tab6 : rtab .any (opsOf Try.f27 6) = laws_eqGEdgeS.T6 := by kernel_rfl
theorem laws_eqGEdgeS.bits6 : waitsOk laws_eqGEdgeS.T6.2 laws_eqGEdgeS.B6 = true := by kernel_rfl
open Go.Proofs.Ytnflbjdmbaaokaa.Short2 in
set_option maxHeartbeats 8000000 in
set_option maxRecDepth 100000 in
theorem laws_eqGEdgeS.calls (k : Nat) (A0 : Option Addr) (c0 : Nat) (l0 : List (S46)) (A1 : Option Addr) (c1 : Nat) (l1 : List (S46)) (r : Bool) (w : World) (hr0 : Kd.C k46 w A0 l0.length l0) (hc0 : l0.length ≤ c0) (hr1 : Kd.C k46 w A1 l1.length l1) (hc1 : l1.length ≤ c1) (h : laws_eqGEdgeS.f k l0 l1 = some r) :
  Calls Try.prog 27 #[.slice A0 l0.length c0, .slice A1 l1.length c1] w fun e w' => e = .returned (.bool r) ∧ Below w.heap.size w w' := by
 have hu46 := Try.underlying46; have HR0 := Aside0.mk hr0; have HC0 := Aside0.mk hc0; clear hr0 hc0; have HR1 := Aside0.mk hr1; have HC1 := Aside0.mk hc1; clear hr1 hc1; have HB := Aside0.mk (Below.refl w.heap.size w); have H : (if (l0.length : Int) = (l1.length : Int) then (laws_eqGEdgeS.l0 k l0 l1 0) else (some false)) = some r := h; clear h
 by_cases c3 : (l0.length : Int) = (l1.length : Int)
 ·rw [if_pos c3] at H; have ak : ((l0.length : Int) == (l1.length : Int)) = true := beq_iff_eq.mpr c3; have al : ((l0.length : Int) != (l1.length : Int)) = false := bne_eq_false_iff_eq.mpr c3
  have am : (l0.length == l1.length) = true := by first | simpa using c3 | (simp at c3 ⊢; omega)
  clear c3; have H' := Aside0.mk H; clear H
  go_enter Try.func27, Try.ntmps27
  go_wp2
  go_loopg [5] k (fun kq v5 w' => ∃ (x5_1 : Int), v5 = .int .i64 x5_1 ∧ Aside0 (laws_eqGEdgeS.l0 kq l0 l1 x5_1 = some r) ∧ Aside0 (kq ≤ k) ∧ Aside0 (Below w.heap.size w w'))
  case atStart => exact ⟨(0), vv, H', ⟨Nat.le_refl _⟩, ⟨zS HB.out⟩⟩
  case round =>
   clear H'
   try clear c1
   try clear c2
   try clear p2
   try clear c3
   try clear ak
   try clear al
   try clear am
   obtain ⟨x5_1, rfl, HA, HK1, HB⟩ := hrel
   cases gk with
   | zero => exact absurd HA.out (by simp [laws_eqGEdgeS.l0])
   | succ k1 =>
    have H := HA.out; clear HA; simp only [laws_eqGEdgeS.l0] at H
    by_cases c4 : x5_1 < (l0.length : Int)
    ·rw [if_pos c4] at H; have ap : decide (x5_1 < (l0.length : Int)) = true := decide_eq_true c4; clear c4
     by_cases c5 : 0 ≤ x5_1
     ·rw [if_pos c5] at H; have aq : decide (0 ≤ x5_1) = true := decide_eq_true c5; clear c5
      by_cases c6 : x5_1 < (l1.length : Int)
      ·rw [if_pos c6] at H; have ar : decide (x5_1 < (l1.length : Int)) = true := decide_eq_true c6; clear c6; replace H := bI H; obtain ⟨an, ao, H⟩ := H; replace H : (if an = true then (laws_eqGEdgeS.l0 k1 l0 l1 (wrap64 (x5_1 + 1))) else (some false)) = some r := H; have A7 := Aside0.mk ao; clear ao
       by_cases c8 : an = true
       ·subst c8
        have H1 : (laws_eqGEdgeS.l0 k1 l0 l1 (wrap64 (x5_1 + 1))) = some r := by rw [if_pos rfl] at H; exact H
        clear H; have H := H1; clear H1; have H' := Aside0.mk H; clear H
        try go_wp2
        replace HB := Aside0.mk (below_drew1 HB.out); have ai : 0 ≤ (x5_1 : Int) := oD; have q321 : x5_1 < (l0.length : Int) := oD; obtain ⟨ad321, e321, aa, ab, ac, ad⟩ := at_T46 HR0.out x5_1 ai q321; have hw321_3 := ad; have hw321_2 := ac; have hw321_1 := ab; have hw321_0 := aa
        cases e321
        replace aa := ct_ HB aa; replace ab := ct_ HB ab; replace ac := ct_ HB ac; replace ad := ct_ HB ad; replace ai := eq_true ai; replace q321 := eq_true q321; have aj : 0 ≤ (x5_1 : Int) := oD; have q322 : x5_1 < (l1.length : Int) := oD; obtain ⟨ad322, e322, ae, af, ag, ah⟩ := at_T46 HR1.out x5_1 aj q322; have hw322_3 := ah; have hw322_2 := ag; have hw322_1 := af; have hw322_0 := ae
        cases e322
        replace ae := ct_ HB ae; replace af := ct_ HB af; replace ag := ct_ HB ag; replace ah := ct_ HB ah; replace aj := eq_true aj; replace q322 := eq_true q322; refine start_ (n := 10) (S := fun w' => w'.cell? (ad321.add ((x5_1).toNat * 4)) = some (.int .i64 ((rd_T46 l0 x5_1).f0)) ∧ w'.cell? ⟨(ad321.add ((x5_1).toNat * 4)).block, (ad321.add ((x5_1).toNat * 4)).off + 1, none⟩ = some (.int .i64 ((rd_T46 l0 x5_1).f1)) ∧ w'.cell? ⟨(ad321.add ((x5_1).toNat * 4)).block, (ad321.add ((x5_1).toNat * 4)).off + 2, none⟩ = some (.int .i64 ((rd_T46 l0 x5_1).f2)) ∧ w'.cell? ⟨(ad321.add ((x5_1).toNat * 4)).block, (ad321.add ((x5_1).toNat * 4)).off + 3, none⟩ = some (.int .i64 ((rd_T46 l0 x5_1).f3)) ∧ w'.cell? (ad322.add ((x5_1).toNat * 4)) = some (.int .i64 ((rd_T46 l1 x5_1).f0)) ∧ w'.cell? ⟨(ad322.add ((x5_1).toNat * 4)).block, (ad322.add ((x5_1).toNat * 4)).off + 1, none⟩ = some (.int .i64 ((rd_T46 l1 x5_1).f1)) ∧ w'.cell? ⟨(ad322.add ((x5_1).toNat * 4)).block, (ad322.add ((x5_1).toNat * 4)).off + 2, none⟩ = some (.int .i64 ((rd_T46 l1 x5_1).f2)) ∧ w'.cell? ⟨(ad322.add ((x5_1).toNat * 4)).block, (ad322.add ((x5_1).toNat * 4)).off + 3, none⟩ = some (.int .i64 ((rd_T46 l1 x5_1).f3))) (ds := []) bl0 (by kernel_rfl) rfl rfl ⟨(ct_ HB hw321_0), (ct_ HB hw321_1), (ct_ HB hw321_2), (ct_ HB hw321_3), (ct_ HB hw322_0), (ct_ HB hw322_1), (ct_ HB hw322_2), (ct_ HB hw322_3)⟩ (fun hHeld => ?_); refine with_tabW laws_eqGEdgeS.tab6 laws_eqGEdgeS.bits6 (fun HT_ HW_ => ?_); generalize wr.drew = w9 at HB aa ab ac ad ae af ag ah hHeld ⊢
        refine pv_ 0 (some 17) bl1 HT_ ?_
        refine pv_ 1 (some 18) bl2 HT_ ?_
        refine pv_ 2 (some 19) bl3 HT_ ?_
        refine pv_ 4 (some 21) bl4 HT_ ?_
        refine pv_ 5 (some 22) bl5 HT_ ?_
        refine pv_ 6 (some 23) bl6 HT_ ?_
        refine tk_ 3 (some 20) bl7 HT_ HW_ hHeld ?_
        refine tk_ 7 (some 24) bl8 HT_ HW_ hHeld ?_
        refine on_ 8 (some 25) bl9 HT_ (fun K hK => ?_); refine gs_ Try.func47 #[.agg #[.int .i64 ((rd_T46 l0 x5_1).f0), .int .i64 ((rd_T46 l0 x5_1).f1), .int .i64 ((rd_T46 l0 x5_1).f2), .int .i64 ((rd_T46 l0 x5_1).f3)], .agg #[.int .i64 ((rd_T46 l1 x5_1).f0), .int .i64 ((rd_T46 l1 x5_1).f1), .int .i64 ((rd_T46 l1 x5_1).f2), .int .i64 ((rd_T46 l1 x5_1).f3)]] ?_
        with_reducible refine (laws_eqGEdge.calls ((rd_T46 l0 x5_1).f0) ((rd_T46 l0 x5_1).f1) ((rd_T46 l0 x5_1).f2) ((rd_T46 l0 x5_1).f3) ((rd_T46 l1 x5_1).f0) ((rd_T46 l1 x5_1).f1) ((rd_T46 l1 x5_1).f2) ((rd_T46 l1 x5_1).f3) true _ A7.out).mono ?_
        rintro e au ⟨rfl, hb⟩; refine ⟨_, rfl, ?_⟩; replace HB := xS HB hb
        (try clear hb)
        (try clear hb2)
        (try clear hk)
        (try clear hi)
        refine hK.out _ _ ⟨(ct_ HB hw321_0), (ct_ HB hw321_1), (ct_ HB hw321_2), (ct_ HB hw321_3), (ct_ HB hw322_0), (ct_ HB hw322_1), (ct_ HB hw322_2), (ct_ HB hw322_3)⟩ (fun hHeld => ?_); clear hK K; refine nr_ (some 25) ?_
        refine pv_ 9 (some 26) bl10 HT_ ?_
        refine done_ (done_of HT_.out (by kernel_rfl)) ?_
        try go_wp2
        go_roundg k1
        case measure => have := HK1.out; omega
        case rel => exact ⟨(wrap64 (x5_1 + 1)), vv, H', ⟨by have := HK1.out; omega⟩, ⟨zS HB.out⟩⟩
       ·replace c8 := Bool.eq_false_iff.mpr c8; subst c8
        have H1 : (some false) = some r := by rw [if_neg (show ¬ (false = true) by decide)] at H; exact H
        clear H; have H := H1; clear H1; obtain rfl := Option.some.inj H
        try go_wp2
        replace HB := Aside0.mk (below_drew1 HB.out); have ai : 0 ≤ (x5_1 : Int) := oD; have q321 : x5_1 < (l0.length : Int) := oD; obtain ⟨ad321, e321, aa, ab, ac, ad⟩ := at_T46 HR0.out x5_1 ai q321; have hw321_3 := ad; have hw321_2 := ac; have hw321_1 := ab; have hw321_0 := aa
        cases e321
        replace aa := ct_ HB aa; replace ab := ct_ HB ab; replace ac := ct_ HB ac; replace ad := ct_ HB ad; replace ai := eq_true ai; replace q321 := eq_true q321; have aj : 0 ≤ (x5_1 : Int) := oD; have q322 : x5_1 < (l1.length : Int) := oD; obtain ⟨ad322, e322, ae, af, ag, ah⟩ := at_T46 HR1.out x5_1 aj q322; have hw322_3 := ah; have hw322_2 := ag; have hw322_1 := af; have hw322_0 := ae
        cases e322
        replace ae := ct_ HB ae; replace af := ct_ HB af; replace ag := ct_ HB ag; replace ah := ct_ HB ah; replace aj := eq_true aj; replace q322 := eq_true q322; refine start_ (n := 10) (S := fun w' => w'.cell? (ad321.add ((x5_1).toNat * 4)) = some (.int .i64 ((rd_T46 l0 x5_1).f0)) ∧ w'.cell? ⟨(ad321.add ((x5_1).toNat * 4)).block, (ad321.add ((x5_1).toNat * 4)).off + 1, none⟩ = some (.int .i64 ((rd_T46 l0 x5_1).f1)) ∧ w'.cell? ⟨(ad321.add ((x5_1).toNat * 4)).block, (ad321.add ((x5_1).toNat * 4)).off + 2, none⟩ = some (.int .i64 ((rd_T46 l0 x5_1).f2)) ∧ w'.cell? ⟨(ad321.add ((x5_1).toNat * 4)).block, (ad321.add ((x5_1).toNat * 4)).off + 3, none⟩ = some (.int .i64 ((rd_T46 l0 x5_1).f3)) ∧ w'.cell? (ad322.add ((x5_1).toNat * 4)) = some (.int .i64 ((rd_T46 l1 x5_1).f0)) ∧ w'.cell? ⟨(ad322.add ((x5_1).toNat * 4)).block, (ad322.add ((x5_1).toNat * 4)).off + 1, none⟩ = some (.int .i64 ((rd_T46 l1 x5_1).f1)) ∧ w'.cell? ⟨(ad322.add ((x5_1).toNat * 4)).block, (ad322.add ((x5_1).toNat * 4)).off + 2, none⟩ = some (.int .i64 ((rd_T46 l1 x5_1).f2)) ∧ w'.cell? ⟨(ad322.add ((x5_1).toNat * 4)).block, (ad322.add ((x5_1).toNat * 4)).off + 3, none⟩ = some (.int .i64 ((rd_T46 l1 x5_1).f3))) (ds := []) bl0 (by kernel_rfl) rfl rfl ⟨(ct_ HB hw321_0), (ct_ HB hw321_1), (ct_ HB hw321_2), (ct_ HB hw321_3), (ct_ HB hw322_0), (ct_ HB hw322_1), (ct_ HB hw322_2), (ct_ HB hw322_3)⟩ (fun hHeld => ?_); refine with_tabW laws_eqGEdgeS.tab6 laws_eqGEdgeS.bits6 (fun HT_ HW_ => ?_); generalize wr.drew = av at HB aa ab ac ad ae af ag ah hHeld ⊢
        refine pv_ 0 (some 17) bl1 HT_ ?_
        refine pv_ 1 (some 18) bl2 HT_ ?_
        refine pv_ 2 (some 19) bl3 HT_ ?_
        refine pv_ 4 (some 21) bl4 HT_ ?_
        refine pv_ 5 (some 22) bl5 HT_ ?_
        refine pv_ 6 (some 23) bl6 HT_ ?_
        refine tk_ 3 (some 20) bl7 HT_ HW_ hHeld ?_
        refine tk_ 7 (some 24) bl8 HT_ HW_ hHeld ?_
        refine on_ 8 (some 25) bl9 HT_ (fun K hK => ?_); refine gs_ Try.func47 #[.agg #[.int .i64 ((rd_T46 l0 x5_1).f0), .int .i64 ((rd_T46 l0 x5_1).f1), .int .i64 ((rd_T46 l0 x5_1).f2), .int .i64 ((rd_T46 l0 x5_1).f3)], .agg #[.int .i64 ((rd_T46 l1 x5_1).f0), .int .i64 ((rd_T46 l1 x5_1).f1), .int .i64 ((rd_T46 l1 x5_1).f2), .int .i64 ((rd_T46 l1 x5_1).f3)]] ?_
        with_reducible refine (laws_eqGEdge.calls ((rd_T46 l0 x5_1).f0) ((rd_T46 l0 x5_1).f1) ((rd_T46 l0 x5_1).f2) ((rd_T46 l0 x5_1).f3) ((rd_T46 l1 x5_1).f0) ((rd_T46 l1 x5_1).f1) ((rd_T46 l1 x5_1).f2) ((rd_T46 l1 x5_1).f3) false _ A7.out).mono ?_
        rintro e aw ⟨rfl, hb⟩; refine ⟨_, rfl, ?_⟩; replace HB := xS HB hb
        (try clear hb)
        (try clear hb2)
        (try clear hk)
        (try clear hi)
        refine hK.out _ _ ⟨(ct_ HB hw321_0), (ct_ HB hw321_1), (ct_ HB hw321_2), (ct_ HB hw321_3), (ct_ HB hw322_0), (ct_ HB hw322_1), (ct_ HB hw322_2), (ct_ HB hw322_3)⟩ (fun hHeld => ?_); clear hK K; refine nr_ (some 25) ?_
        refine pv_ 9 (some 26) bl10 HT_ ?_
        refine done_ (done_of HT_.out (by kernel_rfl)) ?_
        try go_wp2
        go_ret; exact ⟨vw, zS HB.out⟩
      ·rw [if_neg c6] at H; exact absurd H (by simp)
     ·rw [if_neg c5] at H; exact absurd H (by simp)
    ·rw [if_neg c4] at H; have ap : decide (x5_1 < (l0.length : Int)) = false := decide_eq_false c4; clear c4; obtain rfl := Option.some.inj H
     go_wp2
     go_ret; exact ⟨vw, zS HB.out⟩
 ·rw [if_neg c3] at H; have ak : ((l0.length : Int) == (l1.length : Int)) = false := beq_eq_false_iff_ne.mpr c3; have al : ((l0.length : Int) != (l1.length : Int)) = true := bne_iff_ne.mpr c3
  have am : (l0.length == l1.length) = false := by first | simpa using c3 | (simp at c3 ⊢; omega)
  obtain rfl := Option.some.inj H
  go_enter Try.func27, Try.ntmps27
  go_wp2
  go_ret; exact ⟨vw, zS HB.out⟩


/-! ### laws_eqGen: function 9 -/
def laws_eqGen.f (k : Nat) (a0_0 : Int) (a0_1 : Int) (a0_2 : Int) (a0_3 : Int) (l0_4 : List (S46)) (a1_0 : Int) (a1_1 : Int) (a1_2 : Int) (a1_3 : Int) (l1_4 : List (S46)) : Option (Bool) := if a0_0 = a1_0 then (if a0_1 = a1_1 then (if a0_2 = a1_2 then (if a0_3 = a1_3 then ((laws_eqGEdgeS.f k l0_4 l1_4).bind fun t326 => (if t326 = true then (some true) else (some false))) else (some false)) else (some false)) else (some false)) else (some false)
theorem laws_eqGen.mono : ∀ a0 a1 a2 a3 a4 a5 a6 a7 a8 a9 k, LeO (laws_eqGen.f k a0 a1 a2 a3 a4 a5 a6 a7 a8 a9) (laws_eqGen.f (k + 1) a0 a1 a2 a3 a4 a5 a6 a7 a8 a9) := by
 intro a0 a1 a2 a3 a4 a5 a6 a7 a8 a9 k
 unfold laws_eqGen.f
 repeat' first
   | (with_reducible exact laws_eqGEdgeS.mono _ _ _)
   | (with_reducible exact LeO.refl _)
   | (with_reducible exact LeO.none _)
   | (with_reducible refine LeO.ite ?_ ?_)
   | (with_reducible refine LeO.bind ?_ (fun _ => ?_))
   | exact laws_eqGEdgeS.mono _ _ _
   | exact LeO.none _
   | refine LeO.ite ?_ ?_
   | refine LeO.bind ?_ (fun _ => ?_)
open Go.Proofs.Ytnflbjdmbaaokaa.Short2 in
set_option maxHeartbeats 8000000 in
set_option maxRecDepth 100000 in
theorem laws_eqGen.calls (k : Nat) (a0_0 : Int) (a0_1 : Int) (a0_2 : Int) (a0_3 : Int) (A0_4 : Option Addr) (c0_4 : Nat) (l0_4 : List (S46)) (a1_0 : Int) (a1_1 : Int) (a1_2 : Int) (a1_3 : Int) (A1_4 : Option Addr) (c1_4 : Nat) (l1_4 : List (S46)) (r : Bool) (w : World) (hr0_4 : Kd.C k46 w A0_4 l0_4.length l0_4) (hc0_4 : l0_4.length ≤ c0_4) (hr1_4 : Kd.C k46 w A1_4 l1_4.length l1_4) (hc1_4 : l1_4.length ≤ c1_4) (h : laws_eqGen.f k a0_0 a0_1 a0_2 a0_3 l0_4 a1_0 a1_1 a1_2 a1_3 l1_4 = some r) :
  Calls Try.prog 9 #[.agg #[.int .i64 a0_0, .int .i64 a0_1, .int .i64 a0_2, .int .i64 a0_3, .slice A0_4 l0_4.length c0_4], .agg #[.int .i64 a1_0, .int .i64 a1_1, .int .i64 a1_2, .int .i64 a1_3, .slice A1_4 l1_4.length c1_4]] w fun e w' => e = .returned (.bool r) ∧ Below w.heap.size w w' := by
 have hu33 := Try.underlying33; have HR0_4 := Aside0.mk hr0_4; have HC0_4 := Aside0.mk hc0_4; clear hr0_4 hc0_4; have HR1_4 := Aside0.mk hr1_4; have HC1_4 := Aside0.mk hc1_4; clear hr1_4 hc1_4; have HB := Aside0.mk (Below.refl w.heap.size w); have H : (if a0_0 = a1_0 then (if a0_1 = a1_1 then (if a0_2 = a1_2 then (if a0_3 = a1_3 then ((laws_eqGEdgeS.f k l0_4 l1_4).bind fun ak => (if ak = true then (some true) else (some false))) else (some false)) else (some false)) else (some false)) else (some false)) = some r := h; clear h
 by_cases c3 : a0_0 = a1_0
 ·rw [if_pos c3] at H; have am : (a0_0 == a1_0) = true := beq_iff_eq.mpr c3; have an : (a0_0 != a1_0) = false := bne_eq_false_iff_eq.mpr c3; clear c3
  by_cases c4 : a0_1 = a1_1
  ·rw [if_pos c4] at H; have ao : (a0_1 == a1_1) = true := beq_iff_eq.mpr c4; have ap : (a0_1 != a1_1) = false := bne_eq_false_iff_eq.mpr c4; clear c4
   by_cases c5 : a0_2 = a1_2
   ·rw [if_pos c5] at H; have aq : (a0_2 == a1_2) = true := beq_iff_eq.mpr c5; have ar : (a0_2 != a1_2) = false := bne_eq_false_iff_eq.mpr c5; clear c5
    by_cases c6 : a0_3 = a1_3
    ·rw [if_pos c6] at H; have au : (a0_3 == a1_3) = true := beq_iff_eq.mpr c6; have av : (a0_3 != a1_3) = false := bne_eq_false_iff_eq.mpr c6; clear c6; replace H := bI H; obtain ⟨ak, al, H⟩ := H; replace H : (if ak = true then (some true) else (some false)) = some r := H; have A7 := Aside0.mk al; clear al
     by_cases c8 : ak = true
     ·subst c8
      have H1 : (some true) = some r := by rw [if_pos rfl] at H; exact H
      clear H; have H := H1; clear H1; obtain rfl := Option.some.inj H
      go_enter Try.func9, Try.ntmps9
      go_wp2_with (first | ((with_reducible refine gate_dst (N := 2) rfl ?_); refine bx_ 2 #[.int .i64 a0_0, .int .i64 a0_1, .int .i64 a0_2, .int .i64 a0_3, .slice A0_4 l0_4.length c0_4] 33 ?_; intro ae hg w9 hbox hb; have aa := Aside0.mk (hbox); have af := xG HB hg; have ag := xG HB hg; replace HB := xS HB hb; clear hb hbox hg) | ((with_reducible refine gate_dst (N := 3) rfl ?_); refine bx_ 3 #[.int .i64 a1_0, .int .i64 a1_1, .int .i64 a1_2, .int .i64 a1_3, .slice A1_4 l1_4.length c1_4] 33 ?_; intro ah hg db hbox hb; have ac := Aside0.mk (hbox); have ai := xG HB hg; have aj := xG HB hg; replace HB := xS HB hb; have ab := xN aa hg; have ad := xM aa hg; replace aa := xB aa hb; clear hb hbox hg; obtain ⟨cO, cP⟩ := nn ab; obtain ⟨aw, ax, ay, az, aA, aB, aC, aD, aE, aF⟩ := cz5 aa; obtain ⟨aG, aH, aI, aJ, aK, aL, aM, aN, aO, aP⟩ := cz5 ac) | ((with_reducible refine gate_callee (f := 27) rfl ?_); refine gl_ (some 29) Try.func27 #[.slice A0_4 l0_4.length c0_4, .slice A1_4 l1_4.length c1_4] ?_; (with_reducible refine (laws_eqGEdgeS.calls k _ _ l0_4 _ _ l1_4 true _ ?side1 ?side2 ?side3 ?side4 A7.out).mono ?_); (case side1 => exact zC (Kd.C_below HR0_4.out HB.out)); (case side2 => exact HC0_4.out); (case side3 => exact zC (Kd.C_below HR1_4.out HB.out)); (case side4 => exact HC1_4.out); rintro e dc ⟨rfl, hb⟩; refine ⟨_, rfl, ?_⟩; replace aa := xB aa hb; replace ac := xB ac hb; replace HB := xS HB hb; (try clear hb); (try clear hb2); (try clear hk); (try clear hi)))
      go_ret; exact ⟨vw, zS HB.out⟩
     ·replace c8 := Bool.eq_false_iff.mpr c8; subst c8
      have H1 : (some false) = some r := by rw [if_neg (show ¬ (false = true) by decide)] at H; exact H
      clear H; have H := H1; clear H1; obtain rfl := Option.some.inj H
      go_enter Try.func9, Try.ntmps9
      go_wp2_with (first | ((with_reducible refine gate_dst (N := 2) rfl ?_); refine bx_ 2 #[.int .i64 a0_0, .int .i64 a0_1, .int .i64 a0_2, .int .i64 a0_3, .slice A0_4 l0_4.length c0_4] 33 ?_; intro ae hg dd hbox hb; have aa := Aside0.mk (hbox); have af := xG HB hg; have ag := xG HB hg; replace HB := xS HB hb; clear hb hbox hg) | ((with_reducible refine gate_dst (N := 3) rfl ?_); refine bx_ 3 #[.int .i64 a1_0, .int .i64 a1_1, .int .i64 a1_2, .int .i64 a1_3, .slice A1_4 l1_4.length c1_4] 33 ?_; intro ah hg de hbox hb; have ac := Aside0.mk (hbox); have ai := xG HB hg; have aj := xG HB hg; replace HB := xS HB hb; have ab := xN aa hg; have ad := xM aa hg; replace aa := xB aa hb; clear hb hbox hg; obtain ⟨cQ, cR⟩ := nn ab; obtain ⟨aQ, aR, aS, aT, aU, aV, aW, aX, aY, aZ⟩ := cz5 aa; obtain ⟨ba, bb, bc, bd, be, bf, bg, bh, bi, bj⟩ := cz5 ac) | ((with_reducible refine gate_callee (f := 27) rfl ?_); refine gl_ (some 29) Try.func27 #[.slice A0_4 l0_4.length c0_4, .slice A1_4 l1_4.length c1_4] ?_; (with_reducible refine (laws_eqGEdgeS.calls k _ _ l0_4 _ _ l1_4 false _ ?side1 ?side2 ?side3 ?side4 A7.out).mono ?_); (case side1 => exact zC (Kd.C_below HR0_4.out HB.out)); (case side2 => exact HC0_4.out); (case side3 => exact zC (Kd.C_below HR1_4.out HB.out)); (case side4 => exact HC1_4.out); rintro e df ⟨rfl, hb⟩; refine ⟨_, rfl, ?_⟩; replace aa := xB aa hb; replace ac := xB ac hb; replace HB := xS HB hb; (try clear hb); (try clear hb2); (try clear hk); (try clear hi)))
      go_ret; exact ⟨vw, zS HB.out⟩
    ·rw [if_neg c6] at H; have au : (a0_3 == a1_3) = false := beq_eq_false_iff_ne.mpr c6; have av : (a0_3 != a1_3) = true := bne_iff_ne.mpr c6; obtain rfl := Option.some.inj H
     go_enter Try.func9, Try.ntmps9
     go_wp2_with (first | ((with_reducible refine gate_dst (N := 2) rfl ?_); refine bx_ 2 #[.int .i64 a0_0, .int .i64 a0_1, .int .i64 a0_2, .int .i64 a0_3, .slice A0_4 l0_4.length c0_4] 33 ?_; intro ae hg dg hbox hb; have aa := Aside0.mk (hbox); have af := xG HB hg; have ag := xG HB hg; replace HB := xS HB hb; clear hb hbox hg) | ((with_reducible refine gate_dst (N := 3) rfl ?_); refine bx_ 3 #[.int .i64 a1_0, .int .i64 a1_1, .int .i64 a1_2, .int .i64 a1_3, .slice A1_4 l1_4.length c1_4] 33 ?_; intro ah hg dh hbox hb; have ac := Aside0.mk (hbox); have ai := xG HB hg; have aj := xG HB hg; replace HB := xS HB hb; have ab := xN aa hg; have ad := xM aa hg; replace aa := xB aa hb; clear hb hbox hg; obtain ⟨cS, cU⟩ := nn ab; obtain ⟨bk, bl, bm, bn, bo, bp, bq, br, bs, bt⟩ := cz5 aa; obtain ⟨bu, bv, bw, bx, bz, bA, bB, bC, bD, bE⟩ := cz5 ac))
     go_ret; exact ⟨vw, zS HB.out⟩
   ·rw [if_neg c5] at H; have aq : (a0_2 == a1_2) = false := beq_eq_false_iff_ne.mpr c5; have ar : (a0_2 != a1_2) = true := bne_iff_ne.mpr c5; obtain rfl := Option.some.inj H
    go_enter Try.func9, Try.ntmps9
    go_wp2_with (first | ((with_reducible refine gate_dst (N := 2) rfl ?_); refine bx_ 2 #[.int .i64 a0_0, .int .i64 a0_1, .int .i64 a0_2, .int .i64 a0_3, .slice A0_4 l0_4.length c0_4] 33 ?_; intro ae hg di hbox hb; have aa := Aside0.mk (hbox); have af := xG HB hg; have ag := xG HB hg; replace HB := xS HB hb; clear hb hbox hg) | ((with_reducible refine gate_dst (N := 3) rfl ?_); refine bx_ 3 #[.int .i64 a1_0, .int .i64 a1_1, .int .i64 a1_2, .int .i64 a1_3, .slice A1_4 l1_4.length c1_4] 33 ?_; intro ah hg dj hbox hb; have ac := Aside0.mk (hbox); have ai := xG HB hg; have aj := xG HB hg; replace HB := xS HB hb; have ab := xN aa hg; have ad := xM aa hg; replace aa := xB aa hb; clear hb hbox hg; obtain ⟨cV, cW⟩ := nn ab; obtain ⟨bF, bG, bH, bJ, bK, bL, bM, bN, bO, bP⟩ := cz5 aa; obtain ⟨bQ, bR, bS, bT, bU, bV, bW, bX, bY, bZ⟩ := cz5 ac))
    go_ret; exact ⟨vw, zS HB.out⟩
  ·rw [if_neg c4] at H; have ao : (a0_1 == a1_1) = false := beq_eq_false_iff_ne.mpr c4; have ap : (a0_1 != a1_1) = true := bne_iff_ne.mpr c4; obtain rfl := Option.some.inj H
   go_enter Try.func9, Try.ntmps9
   go_wp2_with (first | ((with_reducible refine gate_dst (N := 2) rfl ?_); refine bx_ 2 #[.int .i64 a0_0, .int .i64 a0_1, .int .i64 a0_2, .int .i64 a0_3, .slice A0_4 l0_4.length c0_4] 33 ?_; intro ae hg dk hbox hb; have aa := Aside0.mk (hbox); have af := xG HB hg; have ag := xG HB hg; replace HB := xS HB hb; clear hb hbox hg) | ((with_reducible refine gate_dst (N := 3) rfl ?_); refine bx_ 3 #[.int .i64 a1_0, .int .i64 a1_1, .int .i64 a1_2, .int .i64 a1_3, .slice A1_4 l1_4.length c1_4] 33 ?_; intro ah hg dl hbox hb; have ac := Aside0.mk (hbox); have ai := xG HB hg; have aj := xG HB hg; replace HB := xS HB hb; have ab := xN aa hg; have ad := xM aa hg; replace aa := xB aa hb; clear hb hbox hg; obtain ⟨cX, cY⟩ := nn ab; obtain ⟨ca, cb, cc, cd, ce, cf, cg, ch, ci, cj⟩ := cz5 aa; obtain ⟨ck, cl, cm, cn, co, cp, cq, cr, cs, ct⟩ := cz5 ac))
   go_ret; exact ⟨vw, zS HB.out⟩
 ·rw [if_neg c3] at H; have am : (a0_0 == a1_0) = false := beq_eq_false_iff_ne.mpr c3; have an : (a0_0 != a1_0) = true := bne_iff_ne.mpr c3; obtain rfl := Option.some.inj H
  go_enter Try.func9, Try.ntmps9
  go_wp2_with (first | ((with_reducible refine gate_dst (N := 2) rfl ?_); refine bx_ 2 #[.int .i64 a0_0, .int .i64 a0_1, .int .i64 a0_2, .int .i64 a0_3, .slice A0_4 l0_4.length c0_4] 33 ?_; intro ae hg dm hbox hb; have aa := Aside0.mk (hbox); have af := xG HB hg; have ag := xG HB hg; replace HB := xS HB hb; clear hb hbox hg) | ((with_reducible refine gate_dst (N := 3) rfl ?_); refine bx_ 3 #[.int .i64 a1_0, .int .i64 a1_1, .int .i64 a1_2, .int .i64 a1_3, .slice A1_4 l1_4.length c1_4] 33 ?_; intro ah hg dn hbox hb; have ac := Aside0.mk (hbox); have ai := xG HB hg; have aj := xG HB hg; replace HB := xS HB hb; have ab := xN aa hg; have ad := xM aa hg; replace aa := xB aa hb; clear hb hbox hg; obtain ⟨cZ, da⟩ := nn ab; obtain ⟨cu, cv, cw, cx, cy, cz, cA, cB, cC, cD⟩ := cz5 aa; obtain ⟨cE, cF, cG, cH, cI, cJ, cK, cL, cM, cN⟩ := cz5 ac))
  go_ret; exact ⟨vw, zS HB.out⟩


/-! ### laws_markGEdgeS: function 28 -/
def laws_markGEdgeS.l0 : Nat → List (S46) → Int → Int → Option (Int × (List (S46)))
 | 0, _, _, _ => none
 | k + 1, x0, x1, x5 => if x5 < (x0.length : Int) then (if 0 ≤ x5 then ((some (x0.set (x5 : Int).toNat (⟨x1, (rd_T46 x0 x5).f1, (rd_T46 x0 x5).f2, (rd_T46 x0 x5).f3⟩ : S46) : List (S46))).bind fun y327 => ((some (y327.set (x5 : Int).toNat (⟨(rd_T46 y327 x5).f0, wrap64 (x1 + 1), (rd_T46 y327 x5).f2, (rd_T46 y327 x5).f3⟩ : S46) : List (S46))).bind fun y328 => ((some (y328.set (x5 : Int).toNat (⟨(rd_T46 y328 x5).f0, (rd_T46 y328 x5).f1, wrap64 ((wrap64 (x1 + 1)) + 1), (rd_T46 y328 x5).f3⟩ : S46) : List (S46))).bind fun y329 => (laws_markGEdgeS.l0 k (y329.set (x5 : Int).toNat (⟨(rd_T46 y329 x5).f0, (rd_T46 y329 x5).f1, (rd_T46 y329 x5).f2, wrap64 ((wrap64 ((wrap64 (x1 + 1)) + 1)) + 1)⟩ : S46)) (wrap64 ((wrap64 ((wrap64 ((wrap64 (x1 + 1)) + 1)) + 1)) + 1)) (wrap64 (x5 + 1)))))) else (none)) else (some (x1, x0))
def laws_markGEdgeS.f (k : Nat) (l0 : List (S46)) (a1 : Int) : Option (Int × (List (S46))) := laws_markGEdgeS.l0 k l0 a1 0
theorem laws_markGEdgeS.mono_l : ∀ k, (∀ y0 y1 y2, LeO (laws_markGEdgeS.l0 k y0 y1 y2) (laws_markGEdgeS.l0 (k + 1) y0 y1 y2))
 | 0 => fun _ _ _ r h => by simp [laws_markGEdgeS.l0] at h
 | k + 1 => by
  have ih0 := laws_markGEdgeS.mono_l k
  ·intro y0 y1 y2
   unfold laws_markGEdgeS.l0
   repeat' first
   | (with_reducible exact ih0 _ _ _)
   | (with_reducible exact LeO.refl _)
   | (with_reducible exact LeO.none _)
   | (with_reducible refine LeO.ite ?_ ?_)
   | (with_reducible refine LeO.bind ?_ (fun _ => ?_))
   | exact ih0 _ _ _
   | exact LeO.none _
   | refine LeO.ite ?_ ?_
   | refine LeO.bind ?_ (fun _ => ?_)
theorem laws_markGEdgeS.mono : ∀ a0 a1 k, LeO (laws_markGEdgeS.f k a0 a1) (laws_markGEdgeS.f (k + 1) a0 a1) := by
 intro a0 a1 k
 have ih0 := laws_markGEdgeS.mono_l k
 unfold laws_markGEdgeS.f
 repeat' first
   | (with_reducible exact ih0 _ _ _)
   | (with_reducible exact LeO.refl _)
   | (with_reducible exact LeO.none _)
   | (with_reducible refine LeO.ite ?_ ?_)
   | (with_reducible refine LeO.bind ?_ (fun _ => ?_))
   | exact ih0 _ _ _
   | exact LeO.none _
   | refine LeO.ite ?_ ?_
   | refine LeO.bind ?_ (fun _ => ?_)
open Go.Proofs.Ytnflbjdmbaaokaa.Short2 in
set_option maxHeartbeats 8000000 in
set_option maxRecDepth 100000 in
theorem laws_markGEdgeS.calls (k : Nat) (P0_ : Nat → Prop) (u9000_ : Value) (l0 : List (S46)) (a1 : Int) (r1 : Int) (r2 : List (S46)) (w0 w : World) (hB : Below w0.heap.size w0 w) (ho0 : Kd.R k46 46 w w0.heap.size P0_ u9000_ l0) (h : laws_markGEdgeS.f k l0 a1 = some (r1, r2)) :
  Calls Try.prog 28 #[u9000_, .int .i64 a1] w fun e w' => e = .returned (.int .i64 r1) ∧ Kd.R k46 46 w' w0.heap.size (fun k_ => (P0_ k_ ∨ w.heap.size ≤ k_)) u9000_ r2 ∧ Below w0.heap.size w0 w' ∧ Kept w w' (fun k_ => P0_ k_) := by
 have aF := Aside0.mk (show Kd.R k46 46 w w0.heap.size (fun k_ => (P0_ k_ ∨ w.heap.size ≤ k_)) u9000_ l0 from Kd.R_mono ho0 (fun k_ hk => (.inl hk))); have HK := Aside0.mk (Kept.refl w (fun k_ => P0_ k_)); have HW0 := Aside0.mk hB.size; have HB := Aside0.mk hB; clear hB; have H : (laws_markGEdgeS.l0 k l0 a1 0) = some (r1, r2) := h; clear h; have H' := Aside0.mk H; clear H
 go_enter Try.func28, Try.ntmps28
 go_wp2
 go_loopg [1, 5] k (fun kq v1 v5 w' => ∃ (x0_1 : List (S46)) (x1_1 : Int) (x5_1 : Int), v1 = .int .i64 x1_1 ∧ v5 = .int .i64 x5_1 ∧ Aside0 (laws_markGEdgeS.l0 kq x0_1 x1_1 x5_1 = some (r1, r2)) ∧ Aside0 (kq ≤ k) ∧ Aside0 (Kd.R k46 46 w' w0.heap.size (fun k_ => (P0_ k_ ∨ w.heap.size ≤ k_)) u9000_ x0_1) ∧ Aside0 (Kept w w' (fun k_ => P0_ k_)) ∧ Aside0 (Below w0.heap.size w0 w'))
 case atStart => exact ⟨(l0), (a1), (0), vv, vv, H', ⟨Nat.le_refl _⟩, ⟨zR aF.out⟩, ⟨by repeat (first | (with_reducible first | exact HK.out | apply Kept.alloc | apply Kept.drewN | apply Kept.drew) | exact HK.out)⟩, ⟨zS HB.out⟩⟩
 case round =>
  clear H'
  try clear c2
  try clear p2
  obtain ⟨x0_1, x1_1, x5_1, rfl, rfl, HA, HK1, aa, HK, HB⟩ := hrel
  cases gk with
  | zero => exact absurd HA.out (by simp [laws_markGEdgeS.l0])
  | succ k1 =>
   have H := HA.out; clear HA; simp only [laws_markGEdgeS.l0] at H
   by_cases c3 : x5_1 < (x0_1.length : Int)
   ·rw [if_pos c3] at H; have aD : decide (x5_1 < (x0_1.length : Int)) = true := decide_eq_true c3; clear c3
    by_cases c4 : 0 ≤ x5_1
    ·rw [if_pos c4] at H; have aX : decide (0 ≤ x5_1) = true := decide_eq_true c4; clear c4; obtain ⟨ad, ak⟩ : ∃ y_ : List (S46), y_ = (x0_1.set (x5_1 : Int).toNat (⟨x1_1, (rd_T46 x0_1 x5_1).f1, (rd_T46 x0_1 x5_1).f2, (rd_T46 x0_1 x5_1).f3⟩ : S46)) := ⟨_, rfl⟩
     replace H : ((some (ad.set (x5_1 : Int).toNat (⟨(rd_T46 ad x5_1).f0, wrap64 (x1_1 + 1), (rd_T46 ad x5_1).f2, (rd_T46 ad x5_1).f3⟩ : S46) : List (S46))).bind fun ac => ((some (ac.set (x5_1 : Int).toNat (⟨(rd_T46 ac x5_1).f0, (rd_T46 ac x5_1).f1, wrap64 ((wrap64 (x1_1 + 1)) + 1), (rd_T46 ac x5_1).f3⟩ : S46) : List (S46))).bind fun ab => (laws_markGEdgeS.l0 k1 (ab.set (x5_1 : Int).toNat (⟨(rd_T46 ab x5_1).f0, (rd_T46 ab x5_1).f1, (rd_T46 ab x5_1).f2, wrap64 ((wrap64 ((wrap64 (x1_1 + 1)) + 1)) + 1)⟩ : S46)) (wrap64 ((wrap64 ((wrap64 ((wrap64 (x1_1 + 1)) + 1)) + 1)) + 1)) (wrap64 (x5_1 + 1))))) = some (r1, r2) := by first | (rw [ak]; with_reducible exact H) | (have H2_ := (Option.bind_some _ _).symm.trans H; rw [ak]; with_reducible exact H2_) | (have H2_ := (Option.bind_some _ _).symm.trans H; with_reducible exact H2_) | with_reducible exact H | (rw [ak]; exact H) | exact H
     have ax := Aside0.mk ak; clear ak; obtain ⟨ac, al⟩ : ∃ y_ : List (S46), y_ = (ad.set (x5_1 : Int).toNat (⟨(rd_T46 ad x5_1).f0, wrap64 (x1_1 + 1), (rd_T46 ad x5_1).f2, (rd_T46 ad x5_1).f3⟩ : S46)) := ⟨_, rfl⟩
     replace H : ((some (ac.set (x5_1 : Int).toNat (⟨(rd_T46 ac x5_1).f0, (rd_T46 ac x5_1).f1, wrap64 ((wrap64 (x1_1 + 1)) + 1), (rd_T46 ac x5_1).f3⟩ : S46) : List (S46))).bind fun ab => (laws_markGEdgeS.l0 k1 (ab.set (x5_1 : Int).toNat (⟨(rd_T46 ab x5_1).f0, (rd_T46 ab x5_1).f1, (rd_T46 ab x5_1).f2, wrap64 ((wrap64 ((wrap64 (x1_1 + 1)) + 1)) + 1)⟩ : S46)) (wrap64 ((wrap64 ((wrap64 ((wrap64 (x1_1 + 1)) + 1)) + 1)) + 1)) (wrap64 (x5_1 + 1)))) = some (r1, r2) := by first | (rw [al]; with_reducible exact H) | (have H2_ := (Option.bind_some _ _).symm.trans H; rw [al]; with_reducible exact H2_) | (have H2_ := (Option.bind_some _ _).symm.trans H; with_reducible exact H2_) | with_reducible exact H | (rw [al]; exact H) | exact H
     have ay := Aside0.mk al; clear al; obtain ⟨ab, am⟩ : ∃ y_ : List (S46), y_ = (ac.set (x5_1 : Int).toNat (⟨(rd_T46 ac x5_1).f0, (rd_T46 ac x5_1).f1, wrap64 ((wrap64 (x1_1 + 1)) + 1), (rd_T46 ac x5_1).f3⟩ : S46)) := ⟨_, rfl⟩
     replace H : (laws_markGEdgeS.l0 k1 (ab.set (x5_1 : Int).toNat (⟨(rd_T46 ab x5_1).f0, (rd_T46 ab x5_1).f1, (rd_T46 ab x5_1).f2, wrap64 ((wrap64 ((wrap64 (x1_1 + 1)) + 1)) + 1)⟩ : S46)) (wrap64 ((wrap64 ((wrap64 ((wrap64 (x1_1 + 1)) + 1)) + 1)) + 1)) (wrap64 (x5_1 + 1))) = some (r1, r2) := by first | (rw [am]; with_reducible exact H) | (have H2_ := (Option.bind_some _ _).symm.trans H; rw [am]; with_reducible exact H2_) | (have H2_ := (Option.bind_some _ _).symm.trans H; with_reducible exact H2_) | with_reducible exact H | (rw [am]; exact H) | exact H
     have az := Aside0.mk am; clear am; obtain ⟨ap, an⟩ : ∃ y_ : List (S46), y_ = (ab.set (x5_1 : Int).toNat (⟨(rd_T46 ab x5_1).f0, (rd_T46 ab x5_1).f1, (rd_T46 ab x5_1).f2, wrap64 ((wrap64 ((wrap64 (x1_1 + 1)) + 1)) + 1)⟩ : S46)) := ⟨_, rfl⟩
     replace H : (laws_markGEdgeS.l0 k1 ap (wrap64 ((wrap64 ((wrap64 ((wrap64 (x1_1 + 1)) + 1)) + 1)) + 1)) (wrap64 (x5_1 + 1))) = some (r1, r2) := by first | (rw [an]; with_reducible exact H) | (have H2_ := (Option.bind_some _ _).symm.trans H; rw [an]; with_reducible exact H2_) | (have H2_ := (Option.bind_some _ _).symm.trans H; with_reducible exact H2_) | with_reducible exact H | (rw [an]; exact H) | exact H
     have aA := Aside0.mk an; clear an; have H' := Aside0.mk H; clear H; obtain ⟨ba, ao, aG⟩ := Kd.R_slice aa.out; subst aG; have p5 : 0 ≤ (x5_1 : Int) := oD; have q5 : (x5_1 : Int) < ((x0_1.length : Int) : Int) := oD; obtain ⟨go5, bb, aB, aC, gl5, cl5, HG5⟩ := Kd.R_form aa.out (by omega)
     (first | cases aB | (injection aB with ea_ en_ ec_; (first | subst ea_ | (injection ea_ with ea_; subst ea_)); subst ec_; clear en_))
     have GB5 := Aside0.mk aC; have GG5 := Aside0.mk HG5; clear aC gl5 HG5; have HMgo5 := Aside0.mk (show (P0_ go5 ∨ w.heap.size ≤ go5) from (aa.out.1 _ rfl)); obtain ⟨ce5, hcl5, hM5, hcc5, hfr5⟩ := Kd.R_elem aa.out z46 (x5_1 : Int) p5 q5; obtain rfl := k46_openM hM5; have aH : wr.cell? ⟨go5, (x5_1 : Int).toNat * 4, none⟩ = some (.int .i64 ((rd_T46 x0_1 x5_1).f0)) := hcc5 0 _ rfl; have aI : wr.cell? ⟨go5, (x5_1 : Int).toNat * 4 + 1, none⟩ = some (.int .i64 ((rd_T46 x0_1 x5_1).f1)) := hcc5 1 _ rfl; have aJ : wr.cell? ⟨go5, (x5_1 : Int).toNat * 4 + 2, none⟩ = some (.int .i64 ((rd_T46 x0_1 x5_1).f2)) := hcc5 2 _ rfl; have aK : wr.cell? ⟨go5, (x5_1 : Int).toNat * 4 + 3, none⟩ = some (.int .i64 ((rd_T46 x0_1 x5_1).f3)) := hcc5 3 _ rfl; have hf5_0 : wr.frozen? ⟨go5, (x5_1 : Int).toNat * 4, none⟩ = false := hfr5 0; have hf5_1 : wr.frozen? ⟨go5, (x5_1 : Int).toNat * 4 + 1, none⟩ = false := hfr5 1; have hf5_2 : wr.frozen? ⟨go5, (x5_1 : Int).toNat * 4 + 2, none⟩ = false := hfr5 2; have hf5_3 : wr.frozen? ⟨go5, (x5_1 : Int).toNat * 4 + 3, none⟩ = false := hfr5 3; clear hcl5 hcc5 hfr5 hM5; replace p5 := eq_true p5; replace q5 := eq_true q5; have HX10 := Aside0.mk (show Kd.R k46 46 wr w0.heap.size (fun k_ => (P0_ k_ ∨ w.heap.size ≤ k_)) (.slice (some ⟨go5, 0, none⟩) x0_1.length ao) x0_1 from (zR aa.out)); obtain ⟨ce10, hcl10, hM10, hcc10, hfr10⟩ := Kd.R_elem HX10.out z46 (x5_1 : Int) (oD) (by have h_ : (x5_1 : Int) < ((x0_1.length : Int) : Int) := oD; first | exact h_ | (have e_ := (Kd.R_reads' aa.out).1; omega) | simpa using h_); obtain rfl := k46_openM hM10; have HP10 := Kd.R_seg HX10.out (x5_1 : Int) (oD) (by have h_ : (x5_1 : Int) < ((x0_1.length : Int) : Int) := oD; first | exact h_ | (have e_ := (Kd.R_reads' aa.out).1; omega) | simpa using h_) (seg := [.int .i64 x1_1]) (j := 0) hcl10 hcc10 (show 1 ≤ 4 from by decide) (x' := (⟨x1_1, (rd_T46 x0_1 x5_1).f1, (rd_T46 x0_1 x5_1).f2, (rd_T46 x0_1 x5_1).f3⟩ : S46)) (k46_mkM _ _ _ (⟨x1_1, (rd_T46 x0_1 x5_1).f1, (rd_T46 x0_1 x5_1).f2, (rd_T46 x0_1 x5_1).f3⟩ : S46) ) (fun _ hk => hk); have aq := hcc10 0 _ rfl
     (try simp only [show (k46).sz = 4 from rfl, Nat.mul_one, Nat.add_zero] at aq)
     have hf10_0 := hfr10 0
     (try simp only [show (k46).sz = 4 from rfl, Nat.mul_one, Nat.add_zero] at hf10_0)
     clear hcl10 hcc10 hfr10 hM10
     go_wp2_with (first | ((with_reducible refine gate_store (t := 3) (p := 16) rfl ?_); refine store_event (t := 3) (p := 16) (v := ?vo_w11) (w1 := (wr.setCell ⟨go5, (x5_1 : Int).toNat * 4, none⟩ (.int .i64 x1_1))) ?hg ?ho ?hn ?hr ?_; (case ho => rfl); (case hg => rfl); (case hn => rfl); (case hr => first | (go_simp; done) | (go_simp; rfl)); intro ae hw; have hg : wr.grownBy ae (some go5) := (by rw [hw]; exact HP10.2); have hp_ : Kd.R k46 46 ae w0.heap.size (fun k_ => (P0_ k_ ∨ w.heap.size ≤ k_)) (.slice (some ⟨go5, 0, none⟩) x0_1.length ao) ad := (by rw [hw, ax.out]; exact HP10.1); clear HP10; have ah := Aside0.mk (hp_); have ai := Aside0.mk ((by rw [hw]; exact below_set (HB.out) GB5.out : Below w0.heap.size w0 ae)); have aj := Aside0.mk (Kept.of_grown (S := (fun k_ => P0_ k_)) hg (by repeat (first | (with_reducible first | exact HK.out | apply Kept.alloc | apply Kept.drewN | apply Kept.drew) | exact HK.out)) (fun k_ e_ => (aa.out.1 k_ e_))); clear aa; clear HB; clear HK; have aa := ah; have HB := ai; have HK := aj; clear ah ai aj; clear hg hw hp_; have p6 : 0 ≤ (x5_1 : Int) := oD; have q6 : (x5_1 : Int) < ((x0_1.length : Int) : Int) := oD; obtain ⟨ce6, hcl6, hM6, hcc6, hfr6⟩ := Kd.R_elem aa.out z46 (x5_1 : Int) p6 q6; obtain rfl := k46_openM hM6; have aL : ae.cell? ⟨go5, (x5_1 : Int).toNat * 4, none⟩ = some (.int .i64 ((rd_T46 ad x5_1).f0)) := hcc6 0 _ rfl; have aM : ae.cell? ⟨go5, (x5_1 : Int).toNat * 4 + 1, none⟩ = some (.int .i64 ((rd_T46 ad x5_1).f1)) := hcc6 1 _ rfl; have aN : ae.cell? ⟨go5, (x5_1 : Int).toNat * 4 + 2, none⟩ = some (.int .i64 ((rd_T46 ad x5_1).f2)) := hcc6 2 _ rfl; have aO : ae.cell? ⟨go5, (x5_1 : Int).toNat * 4 + 3, none⟩ = some (.int .i64 ((rd_T46 ad x5_1).f3)) := hcc6 3 _ rfl; have hf6_0 : ae.frozen? ⟨go5, (x5_1 : Int).toNat * 4, none⟩ = false := hfr6 0; have hf6_1 : ae.frozen? ⟨go5, (x5_1 : Int).toNat * 4 + 1, none⟩ = false := hfr6 1; have hf6_2 : ae.frozen? ⟨go5, (x5_1 : Int).toNat * 4 + 2, none⟩ = false := hfr6 2; have hf6_3 : ae.frozen? ⟨go5, (x5_1 : Int).toNat * 4 + 3, none⟩ = false := hfr6 3; clear hcl6 hcc6 hfr6 hM6; replace p6 := eq_true p6; replace q6 := eq_true q6; have HX12 := Aside0.mk (show Kd.R k46 46 ae w0.heap.size (fun k_ => (P0_ k_ ∨ w.heap.size ≤ k_)) (.slice (some ⟨go5, 0, none⟩) x0_1.length ao) ad from (zR aa.out)); obtain ⟨ce12, hcl12, hM12, hcc12, hfr12⟩ := Kd.R_elem HX12.out z46 (x5_1 : Int) (oD) (by have h_ : (x5_1 : Int) < ((x0_1.length : Int) : Int) := oD; first | exact h_ | (have e_ := (Kd.R_reads' aa.out).1; omega) | simpa using h_); obtain rfl := k46_openM hM12; have HP12 := Kd.R_seg HX12.out (x5_1 : Int) (oD) (by have h_ : (x5_1 : Int) < ((x0_1.length : Int) : Int) := oD; first | exact h_ | (have e_ := (Kd.R_reads' aa.out).1; omega) | simpa using h_) (seg := [.int .i64 (wrap64 (x1_1 + 1))]) (j := 1) hcl12 hcc12 (show 2 ≤ 4 from by decide) (x' := (⟨(rd_T46 ad x5_1).f0, wrap64 (x1_1 + 1), (rd_T46 ad x5_1).f2, (rd_T46 ad x5_1).f3⟩ : S46)) (k46_mkM _ _ _ (⟨(rd_T46 ad x5_1).f0, wrap64 (x1_1 + 1), (rd_T46 ad x5_1).f2, (rd_T46 ad x5_1).f3⟩ : S46) ) (fun _ hk => hk); have ar := hcc12 1 _ rfl; (try simp only [show (k46).sz = 4 from rfl, Nat.mul_one, Nat.add_zero] at ar); have hf12_1 := hfr12 1; (try simp only [show (k46).sz = 4 from rfl, Nat.mul_one, Nat.add_zero] at hf12_1); clear hcl12 hcc12 hfr12 hM12) | ((with_reducible refine gate_store (t := 3) (p := 23) rfl ?_); refine store_event (t := 3) (p := 23) (v := ?vo_w13) (w1 := (ae.setCell ⟨go5, (x5_1 : Int).toNat * 4 + 1, none⟩ (.int .i64 (wrap64 (x1_1 + 1))))) ?hg ?ho ?hn ?hr ?_; (case ho => rfl); (case hg => rfl); (case hn => rfl); (case hr => first | (go_simp; done) | (go_simp; rfl)); intro af hw; have hg : ae.grownBy af (some go5) := (by rw [hw]; exact HP12.2); have hp_ : Kd.R k46 46 af w0.heap.size (fun k_ => (P0_ k_ ∨ w.heap.size ≤ k_)) (.slice (some ⟨go5, 0, none⟩) x0_1.length ao) ac := (by rw [hw, ay.out]; exact HP12.1); clear HP12; have ah := Aside0.mk (hp_); have ai := Aside0.mk ((by rw [hw]; exact below_set (HB.out) GB5.out : Below w0.heap.size w0 af)); have aj := Aside0.mk (Kept.of_grown (S := (fun k_ => P0_ k_)) hg (by repeat (first | (with_reducible first | exact HK.out | apply Kept.alloc | apply Kept.drewN | apply Kept.drew) | exact HK.out)) (fun k_ e_ => (aa.out.1 k_ e_))); clear aa; clear HB; clear HK; have aa := ah; have HB := ai; have HK := aj; clear ah ai aj; clear hg hw hp_; have p7 : 0 ≤ (x5_1 : Int) := oD; have q7 : (x5_1 : Int) < ((x0_1.length : Int) : Int) := oD; obtain ⟨ce7, hcl7, hM7, hcc7, hfr7⟩ := Kd.R_elem aa.out z46 (x5_1 : Int) p7 q7; obtain rfl := k46_openM hM7; have aP : af.cell? ⟨go5, (x5_1 : Int).toNat * 4, none⟩ = some (.int .i64 ((rd_T46 ac x5_1).f0)) := hcc7 0 _ rfl; have aQ : af.cell? ⟨go5, (x5_1 : Int).toNat * 4 + 1, none⟩ = some (.int .i64 ((rd_T46 ac x5_1).f1)) := hcc7 1 _ rfl; have aR : af.cell? ⟨go5, (x5_1 : Int).toNat * 4 + 2, none⟩ = some (.int .i64 ((rd_T46 ac x5_1).f2)) := hcc7 2 _ rfl; have aS : af.cell? ⟨go5, (x5_1 : Int).toNat * 4 + 3, none⟩ = some (.int .i64 ((rd_T46 ac x5_1).f3)) := hcc7 3 _ rfl; have hf7_0 : af.frozen? ⟨go5, (x5_1 : Int).toNat * 4, none⟩ = false := hfr7 0; have hf7_1 : af.frozen? ⟨go5, (x5_1 : Int).toNat * 4 + 1, none⟩ = false := hfr7 1; have hf7_2 : af.frozen? ⟨go5, (x5_1 : Int).toNat * 4 + 2, none⟩ = false := hfr7 2; have hf7_3 : af.frozen? ⟨go5, (x5_1 : Int).toNat * 4 + 3, none⟩ = false := hfr7 3; clear hcl7 hcc7 hfr7 hM7; replace p7 := eq_true p7; replace q7 := eq_true q7; have HX14 := Aside0.mk (show Kd.R k46 46 af w0.heap.size (fun k_ => (P0_ k_ ∨ w.heap.size ≤ k_)) (.slice (some ⟨go5, 0, none⟩) x0_1.length ao) ac from (zR aa.out)); obtain ⟨ce14, hcl14, hM14, hcc14, hfr14⟩ := Kd.R_elem HX14.out z46 (x5_1 : Int) (oD) (by have h_ : (x5_1 : Int) < ((x0_1.length : Int) : Int) := oD; first | exact h_ | (have e_ := (Kd.R_reads' aa.out).1; omega) | simpa using h_); obtain rfl := k46_openM hM14; have HP14 := Kd.R_seg HX14.out (x5_1 : Int) (oD) (by have h_ : (x5_1 : Int) < ((x0_1.length : Int) : Int) := oD; first | exact h_ | (have e_ := (Kd.R_reads' aa.out).1; omega) | simpa using h_) (seg := [.int .i64 (wrap64 ((wrap64 (x1_1 + 1)) + 1))]) (j := 2) hcl14 hcc14 (show 3 ≤ 4 from by decide) (x' := (⟨(rd_T46 ac x5_1).f0, (rd_T46 ac x5_1).f1, wrap64 ((wrap64 (x1_1 + 1)) + 1), (rd_T46 ac x5_1).f3⟩ : S46)) (k46_mkM _ _ _ (⟨(rd_T46 ac x5_1).f0, (rd_T46 ac x5_1).f1, wrap64 ((wrap64 (x1_1 + 1)) + 1), (rd_T46 ac x5_1).f3⟩ : S46) ) (fun _ hk => hk); have au := hcc14 2 _ rfl; (try simp only [show (k46).sz = 4 from rfl, Nat.mul_one, Nat.add_zero] at au); have hf14_2 := hfr14 2; (try simp only [show (k46).sz = 4 from rfl, Nat.mul_one, Nat.add_zero] at hf14_2); clear hcl14 hcc14 hfr14 hM14) | ((with_reducible refine gate_store (t := 3) (p := 30) rfl ?_); refine store_event (t := 3) (p := 30) (v := ?vo_w15) (w1 := (af.setCell ⟨go5, (x5_1 : Int).toNat * 4 + 2, none⟩ (.int .i64 (wrap64 ((wrap64 (x1_1 + 1)) + 1))))) ?hg ?ho ?hn ?hr ?_; (case ho => rfl); (case hg => rfl); (case hn => rfl); (case hr => first | (go_simp; done) | (go_simp; rfl)); intro ag hw; have hg : af.grownBy ag (some go5) := (by rw [hw]; exact HP14.2); have hp_ : Kd.R k46 46 ag w0.heap.size (fun k_ => (P0_ k_ ∨ w.heap.size ≤ k_)) (.slice (some ⟨go5, 0, none⟩) x0_1.length ao) ab := (by rw [hw, az.out]; exact HP14.1); clear HP14; have ah := Aside0.mk (hp_); have ai := Aside0.mk ((by rw [hw]; exact below_set (HB.out) GB5.out : Below w0.heap.size w0 ag)); have aj := Aside0.mk (Kept.of_grown (S := (fun k_ => P0_ k_)) hg (by repeat (first | (with_reducible first | exact HK.out | apply Kept.alloc | apply Kept.drewN | apply Kept.drew) | exact HK.out)) (fun k_ e_ => (aa.out.1 k_ e_))); clear aa; clear HB; clear HK; have aa := ah; have HB := ai; have HK := aj; clear ah ai aj; clear hg hw hp_; have p8 : 0 ≤ (x5_1 : Int) := oD; have q8 : (x5_1 : Int) < ((x0_1.length : Int) : Int) := oD; obtain ⟨ce8, hcl8, hM8, hcc8, hfr8⟩ := Kd.R_elem aa.out z46 (x5_1 : Int) p8 q8; obtain rfl := k46_openM hM8; have aT : ag.cell? ⟨go5, (x5_1 : Int).toNat * 4, none⟩ = some (.int .i64 ((rd_T46 ab x5_1).f0)) := hcc8 0 _ rfl; have aU : ag.cell? ⟨go5, (x5_1 : Int).toNat * 4 + 1, none⟩ = some (.int .i64 ((rd_T46 ab x5_1).f1)) := hcc8 1 _ rfl; have aV : ag.cell? ⟨go5, (x5_1 : Int).toNat * 4 + 2, none⟩ = some (.int .i64 ((rd_T46 ab x5_1).f2)) := hcc8 2 _ rfl; have aW : ag.cell? ⟨go5, (x5_1 : Int).toNat * 4 + 3, none⟩ = some (.int .i64 ((rd_T46 ab x5_1).f3)) := hcc8 3 _ rfl; have hf8_0 : ag.frozen? ⟨go5, (x5_1 : Int).toNat * 4, none⟩ = false := hfr8 0; have hf8_1 : ag.frozen? ⟨go5, (x5_1 : Int).toNat * 4 + 1, none⟩ = false := hfr8 1; have hf8_2 : ag.frozen? ⟨go5, (x5_1 : Int).toNat * 4 + 2, none⟩ = false := hfr8 2; have hf8_3 : ag.frozen? ⟨go5, (x5_1 : Int).toNat * 4 + 3, none⟩ = false := hfr8 3; clear hcl8 hcc8 hfr8 hM8; replace p8 := eq_true p8; replace q8 := eq_true q8; have HX16 := Aside0.mk (show Kd.R k46 46 ag w0.heap.size (fun k_ => (P0_ k_ ∨ w.heap.size ≤ k_)) (.slice (some ⟨go5, 0, none⟩) x0_1.length ao) ab from (zR aa.out)); obtain ⟨ce16, hcl16, hM16, hcc16, hfr16⟩ := Kd.R_elem HX16.out z46 (x5_1 : Int) (oD) (by have h_ : (x5_1 : Int) < ((x0_1.length : Int) : Int) := oD; first | exact h_ | (have e_ := (Kd.R_reads' aa.out).1; omega) | simpa using h_); obtain rfl := k46_openM hM16; have HP16 := Kd.R_seg HX16.out (x5_1 : Int) (oD) (by have h_ : (x5_1 : Int) < ((x0_1.length : Int) : Int) := oD; first | exact h_ | (have e_ := (Kd.R_reads' aa.out).1; omega) | simpa using h_) (seg := [.int .i64 (wrap64 ((wrap64 ((wrap64 (x1_1 + 1)) + 1)) + 1))]) (j := 3) hcl16 hcc16 (show 4 ≤ 4 from by decide) (x' := (⟨(rd_T46 ab x5_1).f0, (rd_T46 ab x5_1).f1, (rd_T46 ab x5_1).f2, wrap64 ((wrap64 ((wrap64 (x1_1 + 1)) + 1)) + 1)⟩ : S46)) (k46_mkM _ _ _ (⟨(rd_T46 ab x5_1).f0, (rd_T46 ab x5_1).f1, (rd_T46 ab x5_1).f2, wrap64 ((wrap64 ((wrap64 (x1_1 + 1)) + 1)) + 1)⟩ : S46) ) (fun _ hk => hk); have av := hcc16 3 _ rfl; (try simp only [show (k46).sz = 4 from rfl, Nat.mul_one, Nat.add_zero] at av); have hf16_3 := hfr16 3; (try simp only [show (k46).sz = 4 from rfl, Nat.mul_one, Nat.add_zero] at hf16_3); clear hcl16 hcc16 hfr16 hM16) | ((with_reducible refine gate_store (t := 3) (p := 37) rfl ?_); refine store_event (t := 3) (p := 37) (v := ?vo_w17) (w1 := (ag.setCell ⟨go5, (x5_1 : Int).toNat * 4 + 3, none⟩ (.int .i64 (wrap64 ((wrap64 ((wrap64 (x1_1 + 1)) + 1)) + 1))))) ?hg ?ho ?hn ?hr ?_; (case ho => rfl); (case hg => rfl); (case hn => rfl); (case hr => first | (go_simp; done) | (go_simp; rfl)); intro aw hw; have hg : ag.grownBy aw (some go5) := (by rw [hw]; exact HP16.2); have hp_ : Kd.R k46 46 aw w0.heap.size (fun k_ => (P0_ k_ ∨ w.heap.size ≤ k_)) (.slice (some ⟨go5, 0, none⟩) x0_1.length ao) ap := (by rw [hw, aA.out]; exact HP16.1); clear HP16; have ah := Aside0.mk (hp_); have ai := Aside0.mk ((by rw [hw]; exact below_set (HB.out) GB5.out : Below w0.heap.size w0 aw)); have aj := Aside0.mk (Kept.of_grown (S := (fun k_ => P0_ k_)) hg (by repeat (first | (with_reducible first | exact HK.out | apply Kept.alloc | apply Kept.drewN | apply Kept.drew) | exact HK.out)) (fun k_ e_ => (aa.out.1 k_ e_))); clear aa; clear HB; clear HK; have aa := ah; have HB := ai; have HK := aj; clear ah ai aj; clear hg hw hp_))
     go_roundg k1
     case measure => have := HK1.out; omega
     case rel => exact ⟨(ap), (wrap64 ((wrap64 ((wrap64 ((wrap64 (x1_1 + 1)) + 1)) + 1)) + 1)), (wrap64 (x5_1 + 1)), vv, vv, H', ⟨by have := HK1.out; omega⟩, ⟨zR aa.out⟩, ⟨by repeat (first | (with_reducible first | exact HK.out | apply Kept.alloc | apply Kept.drewN | apply Kept.drew) | exact HK.out)⟩, ⟨zS HB.out⟩⟩
    ·rw [if_neg c4] at H; exact absurd H (by simp)
   ·rw [if_neg c3] at H; have aD : decide (x5_1 < (x0_1.length : Int)) = false := decide_eq_false c3; clear c3; simp only [Option.some.injEq, Prod.mk.injEq] at H; obtain ⟨rfl, rfl⟩ := H; obtain ⟨aY, aZ, aE⟩ := Kd.R_slice aa.out; subst aE
    go_wp2
    go_ret; exact ⟨vw, by (with_reducible repeat (first | apply Kd.R_alloc | apply Kd.R_drewN | apply Kd.R_drew)); exact aa.out, by repeat (first | (with_reducible first | exact HB.out | apply below_alloc | apply pw_below_drewN | apply below_drew1) | exact HB.out), by repeat (first | (with_reducible first | exact HK.out | apply Kept.alloc | apply Kept.drewN | apply Kept.drew) | exact HK.out)⟩


/-! ### laws_markGen: function 10 -/
def laws_markGen.f (k : Nat) (a0_0 : Int) (a0_1 : Int) (a0_2 : Int) (a0_3 : Int) (l0_4 : List (S46)) (a1 : Int) : Option (Int × (List (S46))) := (laws_markGEdgeS.f k l0_4 a1).bind fun bt332 => (some (bt332.1, bt332.2))
theorem laws_markGen.mono : ∀ a0 a1 a2 a3 a4 a5 k, LeO (laws_markGen.f k a0 a1 a2 a3 a4 a5) (laws_markGen.f (k + 1) a0 a1 a2 a3 a4 a5) := by
 intro a0 a1 a2 a3 a4 a5 k
 unfold laws_markGen.f
 repeat' first
   | (with_reducible exact laws_markGEdgeS.mono _ _ _)
   | (with_reducible exact LeO.refl _)
   | (with_reducible exact LeO.none _)
   | (with_reducible refine LeO.ite ?_ ?_)
   | (with_reducible refine LeO.bind ?_ (fun _ => ?_))
   | exact laws_markGEdgeS.mono _ _ _
   | exact LeO.none _
   | refine LeO.ite ?_ ?_
   | refine LeO.bind ?_ (fun _ => ?_)
open Go.Proofs.Ytnflbjdmbaaokaa.Short2 in
set_option maxHeartbeats 8000000 in
set_option maxRecDepth 100000 in
theorem laws_markGen.calls (k : Nat) (a0_0 : Int) (a0_1 : Int) (a0_2 : Int) (a0_3 : Int) (P0_4_ : Nat → Prop) (u9000_ : Value) (l0_4 : List (S46)) (a1 : Int) (r1 : Int) (r2 : List (S46)) (w0 w : World) (hB : Below w0.heap.size w0 w) (ho0_4 : Kd.R k46 46 w w0.heap.size P0_4_ u9000_ l0_4) (h : laws_markGen.f k a0_0 a0_1 a0_2 a0_3 l0_4 a1 = some (r1, r2)) :
  Calls Try.prog 10 #[.agg #[.int .i64 a0_0, .int .i64 a0_1, .int .i64 a0_2, .int .i64 a0_3, u9000_], .int .i64 a1] w fun e w' => e = .returned (.int .i64 r1) ∧ Kd.R k46 46 w' w0.heap.size (fun k_ => (P0_4_ k_ ∨ w.heap.size ≤ k_)) u9000_ r2 ∧ Below w0.heap.size w0 w' ∧ Kept w w' (fun k_ => P0_4_ k_) := by
 have hu33 := Try.underlying33; have HO0_4 := Aside0.mk (show Kd.R k46 46 w w0.heap.size (fun k_ => (P0_4_ k_ ∨ w.heap.size ≤ k_)) u9000_ l0_4 from Kd.R_mono ho0_4 (fun k_ hk => (.inl hk))); have HK := Aside0.mk (Kept.refl w (fun k_ => P0_4_ k_)); have HW0 := Aside0.mk hB.size; have HB := Aside0.mk hB; clear hB; have H : ((laws_markGEdgeS.f k l0_4 a1).bind fun bt332 => (some (bt332.1, bt332.2))) = some (r1, r2) := h; clear h; replace H := bI H; obtain ⟨⟨ak, al⟩, am, H⟩ := H; replace H : (some (ak, al)) = some (r1, r2) := H; have A3 := Aside0.mk am; clear am; simp only [Option.some.injEq, Prod.mk.injEq] at H; obtain ⟨rfl, rfl⟩ := H; obtain ⟨af, ag, aq⟩ := Kd.R_slice HO0_4.out; subst aq
 go_enter Try.func10, Try.ntmps10
 go_wp2_with (first | ((with_reducible refine gate_dst (N := 2) rfl ?_); refine bx_ 2 #[.int .i64 a0_0, .int .i64 a0_1, .int .i64 a0_2, .int .i64 a0_3, .slice af l0_4.length ag] 33 ?_; intro ah hg w5 hbox hb; have ab := xR HO0_4 hb; have ac := Aside0.mk (Kept.below (S := (fun k_ => P0_4_ k_)) (by repeat (first | (with_reducible first | exact HK.out | apply Kept.alloc | apply Kept.drewN | apply Kept.drew) | exact HK.out)) hb); have ad := xS HB hb; have ae := Aside0.mk (hbox); have an := Aside0.mk ((by rw [hg]; exact (by first | exact HK.out.1 | exact (show Kept w _ (fun k_ => P0_4_ k_) from by repeat (first | (with_reducible first | exact HK.out | apply Kept.alloc | apply Kept.drewN | apply Kept.drew) | exact HK.out)).1) : w.heap.size ≤ ah)); have ao := Aside0.mk ((by rw [hg]; exact (below_size (zS HB.out)) : w0.heap.size ≤ ah)); clear HO0_4; clear HK; clear HB; have HO0_4 := ab; have HK := ac; have HB := ad; have aa := ae; have ai := an; have aj := ao; clear ab ac ad ae an ao; clear hb hbox hg; obtain ⟨ar, au, av, aw, ax, ay, az, aA, aB, aC⟩ := cz5 aa) | ((with_reducible refine gate_callee (f := 28) rfl ?_); refine gl_ (some 8) Try.func28 #[.slice af l0_4.length ag, .int .i64 a1] ?_; (with_reducible refine (laws_markGEdgeS.calls k (fun k_ => some k_ = (.slice af l0_4.length ag : Value).ownBlock) (.slice af l0_4.length ag) l0_4 a1 ak al w0 _ ?side1 ?side2 A3.out).mono ?_); (case side1 => repeat (first | (with_reducible first | exact HB.out | apply below_alloc | apply pw_below_drewN | apply below_drew1 | refine below_set ?_ aj.out) | exact HB.out)); (case side2 => exact Kd.R_tight rfl HO0_4.out); rintro e w7 ⟨rfl, ap, hb, hkp⟩; refine ⟨_, rfl, ?_⟩; have ab := Aside0.mk (Kd.R_reok rfl ap (fun k_ e_ => HO0_4.out.1 k_ e_)); have ac := Aside0.mk (blk_kept (zB aa.out) hkp (fun hs_ => (fun e_ => (Kd.R_ne HO0_4.out aa.out (by decide)) e_) hs_)); have ad := Aside0.mk (Kept.then_ (S := (fun k_ => P0_4_ k_)) (by repeat (first | (with_reducible first | exact HK.out | apply Kept.alloc | apply Kept.drewN | apply Kept.drew | refine Kept.setCell ?_ (.inr ai.out) _) | exact HK.out)) hkp (fun k_ hs_ => (fun e_ => (HO0_4.out.1 k_ e_.symm)) hs_)); have ae := Aside0.mk (hb); clear HO0_4; clear aa; clear HK; clear HB; have HO0_4 := ab; have aa := ac; have HK := ad; have HB := ae; clear ab ac ad ae; (try clear hb); (try clear hkp); (try clear ap)))
 go_ret; exact ⟨vw, by (with_reducible repeat (first | apply Kd.R_alloc | apply Kd.R_drewN | apply Kd.R_drew)); exact HO0_4.out, by repeat (first | (with_reducible first | exact HB.out | apply below_alloc | apply pw_below_drewN | apply below_drew1 | refine below_set ?_ aj.out) | exact HB.out), by repeat (first | (with_reducible first | exact HK.out | apply Kept.alloc | apply Kept.drewN | apply Kept.drew | refine Kept.setCell ?_ (.inr ai.out) _) | exact HK.out)⟩


/-! ### laws_markEdgeS: function 29 -/
def laws_markEdgeS.l0 : Nat → List (S48) → Int → Int → Option (Int × (List (S48)))
 | 0, _, _, _ => none
 | k + 1, x0, x1, x5 => if x5 < (x0.length : Int) then (if 0 ≤ x5 then ((some (x0.set (x5 : Int).toNat (⟨x1, (rd_T48 x0 x5).f1, (rd_T48 x0 x5).f2, (rd_T48 x0 x5).f3⟩ : S48) : List (S48))).bind fun y334 => ((some (y334.set (x5 : Int).toNat (⟨(rd_T48 y334 x5).f0, wrap64 (x1 + 1), (rd_T48 y334 x5).f2, (rd_T48 y334 x5).f3⟩ : S48) : List (S48))).bind fun y335 => ((some (y335.set (x5 : Int).toNat (⟨(rd_T48 y335 x5).f0, (rd_T48 y335 x5).f1, wrap64 ((wrap64 (x1 + 1)) + 1), (rd_T48 y335 x5).f3⟩ : S48) : List (S48))).bind fun y336 => (laws_markEdgeS.l0 k (y336.set (x5 : Int).toNat (⟨(rd_T48 y336 x5).f0, (rd_T48 y336 x5).f1, (rd_T48 y336 x5).f2, ((Int.tmod (wrap64 ((wrap64 ((wrap64 (x1 + 1)) + 1)) + 1)) 3) == 0)⟩ : S48)) (wrap64 ((wrap64 ((wrap64 ((wrap64 (x1 + 1)) + 1)) + 1)) + 1)) (wrap64 (x5 + 1)))))) else (none)) else (some (x1, x0))
def laws_markEdgeS.f (k : Nat) (l0 : List (S48)) (a1 : Int) : Option (Int × (List (S48))) := laws_markEdgeS.l0 k l0 a1 0
theorem laws_markEdgeS.mono_l : ∀ k, (∀ y0 y1 y2, LeO (laws_markEdgeS.l0 k y0 y1 y2) (laws_markEdgeS.l0 (k + 1) y0 y1 y2))
 | 0 => fun _ _ _ r h => by simp [laws_markEdgeS.l0] at h
 | k + 1 => by
  have ih0 := laws_markEdgeS.mono_l k
  ·intro y0 y1 y2
   unfold laws_markEdgeS.l0
   repeat' first
   | (with_reducible exact ih0 _ _ _)
   | (with_reducible exact LeO.refl _)
   | (with_reducible exact LeO.none _)
   | (with_reducible refine LeO.ite ?_ ?_)
   | (with_reducible refine LeO.bind ?_ (fun _ => ?_))
   | exact ih0 _ _ _
   | exact LeO.none _
   | refine LeO.ite ?_ ?_
   | refine LeO.bind ?_ (fun _ => ?_)
theorem laws_markEdgeS.mono : ∀ a0 a1 k, LeO (laws_markEdgeS.f k a0 a1) (laws_markEdgeS.f (k + 1) a0 a1) := by
 intro a0 a1 k
 have ih0 := laws_markEdgeS.mono_l k
 unfold laws_markEdgeS.f
 repeat' first
   | (with_reducible exact ih0 _ _ _)
   | (with_reducible exact LeO.refl _)
   | (with_reducible exact LeO.none _)
   | (with_reducible refine LeO.ite ?_ ?_)
   | (with_reducible refine LeO.bind ?_ (fun _ => ?_))
   | exact ih0 _ _ _
   | exact LeO.none _
   | refine LeO.ite ?_ ?_
   | refine LeO.bind ?_ (fun _ => ?_)
open Go.Proofs.Ytnflbjdmbaaokaa.Short2 in
set_option maxHeartbeats 8000000 in
set_option maxRecDepth 100000 in
theorem laws_markEdgeS.calls (k : Nat) (P0_ : Nat → Prop) (u9000_ : Value) (l0 : List (S48)) (a1 : Int) (r1 : Int) (r2 : List (S48)) (w0 w : World) (hB : Below w0.heap.size w0 w) (ho0 : Kd.R k48 48 w w0.heap.size P0_ u9000_ l0) (h : laws_markEdgeS.f k l0 a1 = some (r1, r2)) :
  Calls Try.prog 29 #[u9000_, .int .i64 a1] w fun e w' => e = .returned (.int .i64 r1) ∧ Kd.R k48 48 w' w0.heap.size (fun k_ => (P0_ k_ ∨ w.heap.size ≤ k_)) u9000_ r2 ∧ Below w0.heap.size w0 w' ∧ Kept w w' (fun k_ => P0_ k_) := by
 have aF := Aside0.mk (show Kd.R k48 48 w w0.heap.size (fun k_ => (P0_ k_ ∨ w.heap.size ≤ k_)) u9000_ l0 from Kd.R_mono ho0 (fun k_ hk => (.inl hk))); have HK := Aside0.mk (Kept.refl w (fun k_ => P0_ k_)); have HW0 := Aside0.mk hB.size; have HB := Aside0.mk hB; clear hB; have H : (laws_markEdgeS.l0 k l0 a1 0) = some (r1, r2) := h; clear h; have H' := Aside0.mk H; clear H
 go_enter Try.func29, Try.ntmps29
 go_wp2
 go_loopg [1, 5] k (fun kq v1 v5 w' => ∃ (x0_1 : List (S48)) (x1_1 : Int) (x5_1 : Int), v1 = .int .i64 x1_1 ∧ v5 = .int .i64 x5_1 ∧ Aside0 (laws_markEdgeS.l0 kq x0_1 x1_1 x5_1 = some (r1, r2)) ∧ Aside0 (kq ≤ k) ∧ Aside0 (Kd.R k48 48 w' w0.heap.size (fun k_ => (P0_ k_ ∨ w.heap.size ≤ k_)) u9000_ x0_1) ∧ Aside0 (Kept w w' (fun k_ => P0_ k_)) ∧ Aside0 (Below w0.heap.size w0 w'))
 case atStart => exact ⟨(l0), (a1), (0), vv, vv, H', ⟨Nat.le_refl _⟩, ⟨zR aF.out⟩, ⟨by repeat (first | (with_reducible first | exact HK.out | apply Kept.alloc | apply Kept.drewN | apply Kept.drew) | exact HK.out)⟩, ⟨zS HB.out⟩⟩
 case round =>
  clear H'
  try clear c2
  try clear p2
  obtain ⟨x0_1, x1_1, x5_1, rfl, rfl, HA, HK1, aa, HK, HB⟩ := hrel
  cases gk with
  | zero => exact absurd HA.out (by simp [laws_markEdgeS.l0])
  | succ k1 =>
   have H := HA.out; clear HA; simp only [laws_markEdgeS.l0] at H
   by_cases c3 : x5_1 < (x0_1.length : Int)
   ·rw [if_pos c3] at H; have aD : decide (x5_1 < (x0_1.length : Int)) = true := decide_eq_true c3; clear c3
    by_cases c4 : 0 ≤ x5_1
    ·rw [if_pos c4] at H; have aX : decide (0 ≤ x5_1) = true := decide_eq_true c4; clear c4; obtain ⟨ad, ak⟩ : ∃ y_ : List (S48), y_ = (x0_1.set (x5_1 : Int).toNat (⟨x1_1, (rd_T48 x0_1 x5_1).f1, (rd_T48 x0_1 x5_1).f2, (rd_T48 x0_1 x5_1).f3⟩ : S48)) := ⟨_, rfl⟩
     replace H : ((some (ad.set (x5_1 : Int).toNat (⟨(rd_T48 ad x5_1).f0, wrap64 (x1_1 + 1), (rd_T48 ad x5_1).f2, (rd_T48 ad x5_1).f3⟩ : S48) : List (S48))).bind fun ac => ((some (ac.set (x5_1 : Int).toNat (⟨(rd_T48 ac x5_1).f0, (rd_T48 ac x5_1).f1, wrap64 ((wrap64 (x1_1 + 1)) + 1), (rd_T48 ac x5_1).f3⟩ : S48) : List (S48))).bind fun ab => (laws_markEdgeS.l0 k1 (ab.set (x5_1 : Int).toNat (⟨(rd_T48 ab x5_1).f0, (rd_T48 ab x5_1).f1, (rd_T48 ab x5_1).f2, ((Int.tmod (wrap64 ((wrap64 ((wrap64 (x1_1 + 1)) + 1)) + 1)) 3) == 0)⟩ : S48)) (wrap64 ((wrap64 ((wrap64 ((wrap64 (x1_1 + 1)) + 1)) + 1)) + 1)) (wrap64 (x5_1 + 1))))) = some (r1, r2) := by first | (rw [ak]; with_reducible exact H) | (have H2_ := (Option.bind_some _ _).symm.trans H; rw [ak]; with_reducible exact H2_) | (have H2_ := (Option.bind_some _ _).symm.trans H; with_reducible exact H2_) | with_reducible exact H | (rw [ak]; exact H) | exact H
     have ax := Aside0.mk ak; clear ak; obtain ⟨ac, al⟩ : ∃ y_ : List (S48), y_ = (ad.set (x5_1 : Int).toNat (⟨(rd_T48 ad x5_1).f0, wrap64 (x1_1 + 1), (rd_T48 ad x5_1).f2, (rd_T48 ad x5_1).f3⟩ : S48)) := ⟨_, rfl⟩
     replace H : ((some (ac.set (x5_1 : Int).toNat (⟨(rd_T48 ac x5_1).f0, (rd_T48 ac x5_1).f1, wrap64 ((wrap64 (x1_1 + 1)) + 1), (rd_T48 ac x5_1).f3⟩ : S48) : List (S48))).bind fun ab => (laws_markEdgeS.l0 k1 (ab.set (x5_1 : Int).toNat (⟨(rd_T48 ab x5_1).f0, (rd_T48 ab x5_1).f1, (rd_T48 ab x5_1).f2, ((Int.tmod (wrap64 ((wrap64 ((wrap64 (x1_1 + 1)) + 1)) + 1)) 3) == 0)⟩ : S48)) (wrap64 ((wrap64 ((wrap64 ((wrap64 (x1_1 + 1)) + 1)) + 1)) + 1)) (wrap64 (x5_1 + 1)))) = some (r1, r2) := by first | (rw [al]; with_reducible exact H) | (have H2_ := (Option.bind_some _ _).symm.trans H; rw [al]; with_reducible exact H2_) | (have H2_ := (Option.bind_some _ _).symm.trans H; with_reducible exact H2_) | with_reducible exact H | (rw [al]; exact H) | exact H
     have ay := Aside0.mk al; clear al; obtain ⟨ab, am⟩ : ∃ y_ : List (S48), y_ = (ac.set (x5_1 : Int).toNat (⟨(rd_T48 ac x5_1).f0, (rd_T48 ac x5_1).f1, wrap64 ((wrap64 (x1_1 + 1)) + 1), (rd_T48 ac x5_1).f3⟩ : S48)) := ⟨_, rfl⟩
     replace H : (laws_markEdgeS.l0 k1 (ab.set (x5_1 : Int).toNat (⟨(rd_T48 ab x5_1).f0, (rd_T48 ab x5_1).f1, (rd_T48 ab x5_1).f2, ((Int.tmod (wrap64 ((wrap64 ((wrap64 (x1_1 + 1)) + 1)) + 1)) 3) == 0)⟩ : S48)) (wrap64 ((wrap64 ((wrap64 ((wrap64 (x1_1 + 1)) + 1)) + 1)) + 1)) (wrap64 (x5_1 + 1))) = some (r1, r2) := by first | (rw [am]; with_reducible exact H) | (have H2_ := (Option.bind_some _ _).symm.trans H; rw [am]; with_reducible exact H2_) | (have H2_ := (Option.bind_some _ _).symm.trans H; with_reducible exact H2_) | with_reducible exact H | (rw [am]; exact H) | exact H
     have az := Aside0.mk am; clear am; obtain ⟨ap, an⟩ : ∃ y_ : List (S48), y_ = (ab.set (x5_1 : Int).toNat (⟨(rd_T48 ab x5_1).f0, (rd_T48 ab x5_1).f1, (rd_T48 ab x5_1).f2, ((Int.tmod (wrap64 ((wrap64 ((wrap64 (x1_1 + 1)) + 1)) + 1)) 3) == 0)⟩ : S48)) := ⟨_, rfl⟩
     replace H : (laws_markEdgeS.l0 k1 ap (wrap64 ((wrap64 ((wrap64 ((wrap64 (x1_1 + 1)) + 1)) + 1)) + 1)) (wrap64 (x5_1 + 1))) = some (r1, r2) := by first | (rw [an]; with_reducible exact H) | (have H2_ := (Option.bind_some _ _).symm.trans H; rw [an]; with_reducible exact H2_) | (have H2_ := (Option.bind_some _ _).symm.trans H; with_reducible exact H2_) | with_reducible exact H | (rw [an]; exact H) | exact H
     have aA := Aside0.mk an; clear an; have H' := Aside0.mk H; clear H; obtain ⟨ba, ao, aG⟩ := Kd.R_slice aa.out; subst aG; have p5 : 0 ≤ (x5_1 : Int) := oD; have q5 : (x5_1 : Int) < ((x0_1.length : Int) : Int) := oD; obtain ⟨go5, bb, aB, aC, gl5, cl5, HG5⟩ := Kd.R_form aa.out (by omega)
     (first | cases aB | (injection aB with ea_ en_ ec_; (first | subst ea_ | (injection ea_ with ea_; subst ea_)); subst ec_; clear en_))
     have GB5 := Aside0.mk aC; have GG5 := Aside0.mk HG5; clear aC gl5 HG5; have HMgo5 := Aside0.mk (show (P0_ go5 ∨ w.heap.size ≤ go5) from (aa.out.1 _ rfl)); obtain ⟨ce5, hcl5, hM5, hcc5, hfr5⟩ := Kd.R_elem aa.out z48 (x5_1 : Int) p5 q5; obtain rfl := k48_openM hM5; have aH : wr.cell? ⟨go5, (x5_1 : Int).toNat * 4, none⟩ = some (.int .i64 ((rd_T48 x0_1 x5_1).f0)) := hcc5 0 _ rfl; have aI : wr.cell? ⟨go5, (x5_1 : Int).toNat * 4 + 1, none⟩ = some (.int .i64 ((rd_T48 x0_1 x5_1).f1)) := hcc5 1 _ rfl; have aJ : wr.cell? ⟨go5, (x5_1 : Int).toNat * 4 + 2, none⟩ = some (.int .i64 ((rd_T48 x0_1 x5_1).f2)) := hcc5 2 _ rfl; have aK : wr.cell? ⟨go5, (x5_1 : Int).toNat * 4 + 3, none⟩ = some (.bool ((rd_T48 x0_1 x5_1).f3)) := hcc5 3 _ rfl; have hf5_0 : wr.frozen? ⟨go5, (x5_1 : Int).toNat * 4, none⟩ = false := hfr5 0; have hf5_1 : wr.frozen? ⟨go5, (x5_1 : Int).toNat * 4 + 1, none⟩ = false := hfr5 1; have hf5_2 : wr.frozen? ⟨go5, (x5_1 : Int).toNat * 4 + 2, none⟩ = false := hfr5 2; have hf5_3 : wr.frozen? ⟨go5, (x5_1 : Int).toNat * 4 + 3, none⟩ = false := hfr5 3; clear hcl5 hcc5 hfr5 hM5; replace p5 := eq_true p5; replace q5 := eq_true q5; have HX10 := Aside0.mk (show Kd.R k48 48 wr w0.heap.size (fun k_ => (P0_ k_ ∨ w.heap.size ≤ k_)) (.slice (some ⟨go5, 0, none⟩) x0_1.length ao) x0_1 from (zR aa.out)); obtain ⟨ce10, hcl10, hM10, hcc10, hfr10⟩ := Kd.R_elem HX10.out z48 (x5_1 : Int) (oD) (by have h_ : (x5_1 : Int) < ((x0_1.length : Int) : Int) := oD; first | exact h_ | (have e_ := (Kd.R_reads' aa.out).1; omega) | simpa using h_); obtain rfl := k48_openM hM10; have HP10 := Kd.R_seg HX10.out (x5_1 : Int) (oD) (by have h_ : (x5_1 : Int) < ((x0_1.length : Int) : Int) := oD; first | exact h_ | (have e_ := (Kd.R_reads' aa.out).1; omega) | simpa using h_) (seg := [.int .i64 x1_1]) (j := 0) hcl10 hcc10 (show 1 ≤ 4 from by decide) (x' := (⟨x1_1, (rd_T48 x0_1 x5_1).f1, (rd_T48 x0_1 x5_1).f2, (rd_T48 x0_1 x5_1).f3⟩ : S48)) (k48_mkM _ _ _ (⟨x1_1, (rd_T48 x0_1 x5_1).f1, (rd_T48 x0_1 x5_1).f2, (rd_T48 x0_1 x5_1).f3⟩ : S48) ) (fun _ hk => hk); have aq := hcc10 0 _ rfl
     (try simp only [show (k48).sz = 4 from rfl, Nat.mul_one, Nat.add_zero] at aq)
     have hf10_0 := hfr10 0
     (try simp only [show (k48).sz = 4 from rfl, Nat.mul_one, Nat.add_zero] at hf10_0)
     clear hcl10 hcc10 hfr10 hM10
     go_wp2_with (first | ((with_reducible refine gate_store (t := 3) (p := 16) rfl ?_); refine store_event (t := 3) (p := 16) (v := ?vo_w11) (w1 := (wr.setCell ⟨go5, (x5_1 : Int).toNat * 4, none⟩ (.int .i64 x1_1))) ?hg ?ho ?hn ?hr ?_; (case ho => rfl); (case hg => rfl); (case hn => rfl); (case hr => first | (go_simp; done) | (go_simp; rfl)); intro ae hw; have hg : wr.grownBy ae (some go5) := (by rw [hw]; exact HP10.2); have hp_ : Kd.R k48 48 ae w0.heap.size (fun k_ => (P0_ k_ ∨ w.heap.size ≤ k_)) (.slice (some ⟨go5, 0, none⟩) x0_1.length ao) ad := (by rw [hw, ax.out]; exact HP10.1); clear HP10; have ah := Aside0.mk (hp_); have ai := Aside0.mk ((by rw [hw]; exact below_set (HB.out) GB5.out : Below w0.heap.size w0 ae)); have aj := Aside0.mk (Kept.of_grown (S := (fun k_ => P0_ k_)) hg (by repeat (first | (with_reducible first | exact HK.out | apply Kept.alloc | apply Kept.drewN | apply Kept.drew) | exact HK.out)) (fun k_ e_ => (aa.out.1 k_ e_))); clear aa; clear HB; clear HK; have aa := ah; have HB := ai; have HK := aj; clear ah ai aj; clear hg hw hp_; have p6 : 0 ≤ (x5_1 : Int) := oD; have q6 : (x5_1 : Int) < ((x0_1.length : Int) : Int) := oD; obtain ⟨ce6, hcl6, hM6, hcc6, hfr6⟩ := Kd.R_elem aa.out z48 (x5_1 : Int) p6 q6; obtain rfl := k48_openM hM6; have aL : ae.cell? ⟨go5, (x5_1 : Int).toNat * 4, none⟩ = some (.int .i64 ((rd_T48 ad x5_1).f0)) := hcc6 0 _ rfl; have aM : ae.cell? ⟨go5, (x5_1 : Int).toNat * 4 + 1, none⟩ = some (.int .i64 ((rd_T48 ad x5_1).f1)) := hcc6 1 _ rfl; have aN : ae.cell? ⟨go5, (x5_1 : Int).toNat * 4 + 2, none⟩ = some (.int .i64 ((rd_T48 ad x5_1).f2)) := hcc6 2 _ rfl; have aO : ae.cell? ⟨go5, (x5_1 : Int).toNat * 4 + 3, none⟩ = some (.bool ((rd_T48 ad x5_1).f3)) := hcc6 3 _ rfl; have hf6_0 : ae.frozen? ⟨go5, (x5_1 : Int).toNat * 4, none⟩ = false := hfr6 0; have hf6_1 : ae.frozen? ⟨go5, (x5_1 : Int).toNat * 4 + 1, none⟩ = false := hfr6 1; have hf6_2 : ae.frozen? ⟨go5, (x5_1 : Int).toNat * 4 + 2, none⟩ = false := hfr6 2; have hf6_3 : ae.frozen? ⟨go5, (x5_1 : Int).toNat * 4 + 3, none⟩ = false := hfr6 3; clear hcl6 hcc6 hfr6 hM6; replace p6 := eq_true p6; replace q6 := eq_true q6; have HX12 := Aside0.mk (show Kd.R k48 48 ae w0.heap.size (fun k_ => (P0_ k_ ∨ w.heap.size ≤ k_)) (.slice (some ⟨go5, 0, none⟩) x0_1.length ao) ad from (zR aa.out)); obtain ⟨ce12, hcl12, hM12, hcc12, hfr12⟩ := Kd.R_elem HX12.out z48 (x5_1 : Int) (oD) (by have h_ : (x5_1 : Int) < ((x0_1.length : Int) : Int) := oD; first | exact h_ | (have e_ := (Kd.R_reads' aa.out).1; omega) | simpa using h_); obtain rfl := k48_openM hM12; have HP12 := Kd.R_seg HX12.out (x5_1 : Int) (oD) (by have h_ : (x5_1 : Int) < ((x0_1.length : Int) : Int) := oD; first | exact h_ | (have e_ := (Kd.R_reads' aa.out).1; omega) | simpa using h_) (seg := [.int .i64 (wrap64 (x1_1 + 1))]) (j := 1) hcl12 hcc12 (show 2 ≤ 4 from by decide) (x' := (⟨(rd_T48 ad x5_1).f0, wrap64 (x1_1 + 1), (rd_T48 ad x5_1).f2, (rd_T48 ad x5_1).f3⟩ : S48)) (k48_mkM _ _ _ (⟨(rd_T48 ad x5_1).f0, wrap64 (x1_1 + 1), (rd_T48 ad x5_1).f2, (rd_T48 ad x5_1).f3⟩ : S48) ) (fun _ hk => hk); have ar := hcc12 1 _ rfl; (try simp only [show (k48).sz = 4 from rfl, Nat.mul_one, Nat.add_zero] at ar); have hf12_1 := hfr12 1; (try simp only [show (k48).sz = 4 from rfl, Nat.mul_one, Nat.add_zero] at hf12_1); clear hcl12 hcc12 hfr12 hM12) | ((with_reducible refine gate_store (t := 3) (p := 23) rfl ?_); refine store_event (t := 3) (p := 23) (v := ?vo_w13) (w1 := (ae.setCell ⟨go5, (x5_1 : Int).toNat * 4 + 1, none⟩ (.int .i64 (wrap64 (x1_1 + 1))))) ?hg ?ho ?hn ?hr ?_; (case ho => rfl); (case hg => rfl); (case hn => rfl); (case hr => first | (go_simp; done) | (go_simp; rfl)); intro af hw; have hg : ae.grownBy af (some go5) := (by rw [hw]; exact HP12.2); have hp_ : Kd.R k48 48 af w0.heap.size (fun k_ => (P0_ k_ ∨ w.heap.size ≤ k_)) (.slice (some ⟨go5, 0, none⟩) x0_1.length ao) ac := (by rw [hw, ay.out]; exact HP12.1); clear HP12; have ah := Aside0.mk (hp_); have ai := Aside0.mk ((by rw [hw]; exact below_set (HB.out) GB5.out : Below w0.heap.size w0 af)); have aj := Aside0.mk (Kept.of_grown (S := (fun k_ => P0_ k_)) hg (by repeat (first | (with_reducible first | exact HK.out | apply Kept.alloc | apply Kept.drewN | apply Kept.drew) | exact HK.out)) (fun k_ e_ => (aa.out.1 k_ e_))); clear aa; clear HB; clear HK; have aa := ah; have HB := ai; have HK := aj; clear ah ai aj; clear hg hw hp_; have p7 : 0 ≤ (x5_1 : Int) := oD; have q7 : (x5_1 : Int) < ((x0_1.length : Int) : Int) := oD; obtain ⟨ce7, hcl7, hM7, hcc7, hfr7⟩ := Kd.R_elem aa.out z48 (x5_1 : Int) p7 q7; obtain rfl := k48_openM hM7; have aP : af.cell? ⟨go5, (x5_1 : Int).toNat * 4, none⟩ = some (.int .i64 ((rd_T48 ac x5_1).f0)) := hcc7 0 _ rfl; have aQ : af.cell? ⟨go5, (x5_1 : Int).toNat * 4 + 1, none⟩ = some (.int .i64 ((rd_T48 ac x5_1).f1)) := hcc7 1 _ rfl; have aR : af.cell? ⟨go5, (x5_1 : Int).toNat * 4 + 2, none⟩ = some (.int .i64 ((rd_T48 ac x5_1).f2)) := hcc7 2 _ rfl; have aS : af.cell? ⟨go5, (x5_1 : Int).toNat * 4 + 3, none⟩ = some (.bool ((rd_T48 ac x5_1).f3)) := hcc7 3 _ rfl; have hf7_0 : af.frozen? ⟨go5, (x5_1 : Int).toNat * 4, none⟩ = false := hfr7 0; have hf7_1 : af.frozen? ⟨go5, (x5_1 : Int).toNat * 4 + 1, none⟩ = false := hfr7 1; have hf7_2 : af.frozen? ⟨go5, (x5_1 : Int).toNat * 4 + 2, none⟩ = false := hfr7 2; have hf7_3 : af.frozen? ⟨go5, (x5_1 : Int).toNat * 4 + 3, none⟩ = false := hfr7 3; clear hcl7 hcc7 hfr7 hM7; replace p7 := eq_true p7; replace q7 := eq_true q7; have HX14 := Aside0.mk (show Kd.R k48 48 af w0.heap.size (fun k_ => (P0_ k_ ∨ w.heap.size ≤ k_)) (.slice (some ⟨go5, 0, none⟩) x0_1.length ao) ac from (zR aa.out)); obtain ⟨ce14, hcl14, hM14, hcc14, hfr14⟩ := Kd.R_elem HX14.out z48 (x5_1 : Int) (oD) (by have h_ : (x5_1 : Int) < ((x0_1.length : Int) : Int) := oD; first | exact h_ | (have e_ := (Kd.R_reads' aa.out).1; omega) | simpa using h_); obtain rfl := k48_openM hM14; have HP14 := Kd.R_seg HX14.out (x5_1 : Int) (oD) (by have h_ : (x5_1 : Int) < ((x0_1.length : Int) : Int) := oD; first | exact h_ | (have e_ := (Kd.R_reads' aa.out).1; omega) | simpa using h_) (seg := [.int .i64 (wrap64 ((wrap64 (x1_1 + 1)) + 1))]) (j := 2) hcl14 hcc14 (show 3 ≤ 4 from by decide) (x' := (⟨(rd_T48 ac x5_1).f0, (rd_T48 ac x5_1).f1, wrap64 ((wrap64 (x1_1 + 1)) + 1), (rd_T48 ac x5_1).f3⟩ : S48)) (k48_mkM _ _ _ (⟨(rd_T48 ac x5_1).f0, (rd_T48 ac x5_1).f1, wrap64 ((wrap64 (x1_1 + 1)) + 1), (rd_T48 ac x5_1).f3⟩ : S48) ) (fun _ hk => hk); have au := hcc14 2 _ rfl; (try simp only [show (k48).sz = 4 from rfl, Nat.mul_one, Nat.add_zero] at au); have hf14_2 := hfr14 2; (try simp only [show (k48).sz = 4 from rfl, Nat.mul_one, Nat.add_zero] at hf14_2); clear hcl14 hcc14 hfr14 hM14) | ((with_reducible refine gate_store (t := 3) (p := 30) rfl ?_); refine store_event (t := 3) (p := 30) (v := ?vo_w15) (w1 := (af.setCell ⟨go5, (x5_1 : Int).toNat * 4 + 2, none⟩ (.int .i64 (wrap64 ((wrap64 (x1_1 + 1)) + 1))))) ?hg ?ho ?hn ?hr ?_; (case ho => rfl); (case hg => rfl); (case hn => rfl); (case hr => first | (go_simp; done) | (go_simp; rfl)); intro ag hw; have hg : af.grownBy ag (some go5) := (by rw [hw]; exact HP14.2); have hp_ : Kd.R k48 48 ag w0.heap.size (fun k_ => (P0_ k_ ∨ w.heap.size ≤ k_)) (.slice (some ⟨go5, 0, none⟩) x0_1.length ao) ab := (by rw [hw, az.out]; exact HP14.1); clear HP14; have ah := Aside0.mk (hp_); have ai := Aside0.mk ((by rw [hw]; exact below_set (HB.out) GB5.out : Below w0.heap.size w0 ag)); have aj := Aside0.mk (Kept.of_grown (S := (fun k_ => P0_ k_)) hg (by repeat (first | (with_reducible first | exact HK.out | apply Kept.alloc | apply Kept.drewN | apply Kept.drew) | exact HK.out)) (fun k_ e_ => (aa.out.1 k_ e_))); clear aa; clear HB; clear HK; have aa := ah; have HB := ai; have HK := aj; clear ah ai aj; clear hg hw hp_; have p8 : 0 ≤ (x5_1 : Int) := oD; have q8 : (x5_1 : Int) < ((x0_1.length : Int) : Int) := oD; obtain ⟨ce8, hcl8, hM8, hcc8, hfr8⟩ := Kd.R_elem aa.out z48 (x5_1 : Int) p8 q8; obtain rfl := k48_openM hM8; have aT : ag.cell? ⟨go5, (x5_1 : Int).toNat * 4, none⟩ = some (.int .i64 ((rd_T48 ab x5_1).f0)) := hcc8 0 _ rfl; have aU : ag.cell? ⟨go5, (x5_1 : Int).toNat * 4 + 1, none⟩ = some (.int .i64 ((rd_T48 ab x5_1).f1)) := hcc8 1 _ rfl; have aV : ag.cell? ⟨go5, (x5_1 : Int).toNat * 4 + 2, none⟩ = some (.int .i64 ((rd_T48 ab x5_1).f2)) := hcc8 2 _ rfl; have aW : ag.cell? ⟨go5, (x5_1 : Int).toNat * 4 + 3, none⟩ = some (.bool ((rd_T48 ab x5_1).f3)) := hcc8 3 _ rfl; have hf8_0 : ag.frozen? ⟨go5, (x5_1 : Int).toNat * 4, none⟩ = false := hfr8 0; have hf8_1 : ag.frozen? ⟨go5, (x5_1 : Int).toNat * 4 + 1, none⟩ = false := hfr8 1; have hf8_2 : ag.frozen? ⟨go5, (x5_1 : Int).toNat * 4 + 2, none⟩ = false := hfr8 2; have hf8_3 : ag.frozen? ⟨go5, (x5_1 : Int).toNat * 4 + 3, none⟩ = false := hfr8 3; clear hcl8 hcc8 hfr8 hM8; replace p8 := eq_true p8; replace q8 := eq_true q8; have HX16 := Aside0.mk (show Kd.R k48 48 ag w0.heap.size (fun k_ => (P0_ k_ ∨ w.heap.size ≤ k_)) (.slice (some ⟨go5, 0, none⟩) x0_1.length ao) ab from (zR aa.out)); obtain ⟨ce16, hcl16, hM16, hcc16, hfr16⟩ := Kd.R_elem HX16.out z48 (x5_1 : Int) (oD) (by have h_ : (x5_1 : Int) < ((x0_1.length : Int) : Int) := oD; first | exact h_ | (have e_ := (Kd.R_reads' aa.out).1; omega) | simpa using h_); obtain rfl := k48_openM hM16; have HP16 := Kd.R_seg HX16.out (x5_1 : Int) (oD) (by have h_ : (x5_1 : Int) < ((x0_1.length : Int) : Int) := oD; first | exact h_ | (have e_ := (Kd.R_reads' aa.out).1; omega) | simpa using h_) (seg := [.bool ((Int.tmod (wrap64 ((wrap64 ((wrap64 (x1_1 + 1)) + 1)) + 1)) 3) == 0)]) (j := 3) hcl16 hcc16 (show 4 ≤ 4 from by decide) (x' := (⟨(rd_T48 ab x5_1).f0, (rd_T48 ab x5_1).f1, (rd_T48 ab x5_1).f2, ((Int.tmod (wrap64 ((wrap64 ((wrap64 (x1_1 + 1)) + 1)) + 1)) 3) == 0)⟩ : S48)) (k48_mkM _ _ _ (⟨(rd_T48 ab x5_1).f0, (rd_T48 ab x5_1).f1, (rd_T48 ab x5_1).f2, ((Int.tmod (wrap64 ((wrap64 ((wrap64 (x1_1 + 1)) + 1)) + 1)) 3) == 0)⟩ : S48) ) (fun _ hk => hk); have av := hcc16 3 _ rfl; (try simp only [show (k48).sz = 4 from rfl, Nat.mul_one, Nat.add_zero] at av); have hf16_3 := hfr16 3; (try simp only [show (k48).sz = 4 from rfl, Nat.mul_one, Nat.add_zero] at hf16_3); clear hcl16 hcc16 hfr16 hM16) | ((with_reducible refine gate_store (t := 4) (p := 39) rfl ?_); refine store_event (t := 4) (p := 39) (v := ?vo_w17) (w1 := (ag.setCell ⟨go5, (x5_1 : Int).toNat * 4 + 3, none⟩ (.bool ((Int.tmod (wrap64 ((wrap64 ((wrap64 (x1_1 + 1)) + 1)) + 1)) 3) == 0)))) ?hg ?ho ?hn ?hr ?_; (case ho => rfl); (case hg => rfl); (case hn => rfl); (case hr => first | (go_simp; done) | (go_simp; rfl)); intro aw hw; have hg : ag.grownBy aw (some go5) := (by rw [hw]; exact HP16.2); have hp_ : Kd.R k48 48 aw w0.heap.size (fun k_ => (P0_ k_ ∨ w.heap.size ≤ k_)) (.slice (some ⟨go5, 0, none⟩) x0_1.length ao) ap := (by rw [hw, aA.out]; exact HP16.1); clear HP16; have ah := Aside0.mk (hp_); have ai := Aside0.mk ((by rw [hw]; exact below_set (HB.out) GB5.out : Below w0.heap.size w0 aw)); have aj := Aside0.mk (Kept.of_grown (S := (fun k_ => P0_ k_)) hg (by repeat (first | (with_reducible first | exact HK.out | apply Kept.alloc | apply Kept.drewN | apply Kept.drew) | exact HK.out)) (fun k_ e_ => (aa.out.1 k_ e_))); clear aa; clear HB; clear HK; have aa := ah; have HB := ai; have HK := aj; clear ah ai aj; clear hg hw hp_))
     go_roundg k1
     case measure => have := HK1.out; omega
     case rel => exact ⟨(ap), (wrap64 ((wrap64 ((wrap64 ((wrap64 (x1_1 + 1)) + 1)) + 1)) + 1)), (wrap64 (x5_1 + 1)), vv, vv, H', ⟨by have := HK1.out; omega⟩, ⟨zR aa.out⟩, ⟨by repeat (first | (with_reducible first | exact HK.out | apply Kept.alloc | apply Kept.drewN | apply Kept.drew) | exact HK.out)⟩, ⟨zS HB.out⟩⟩
    ·rw [if_neg c4] at H; exact absurd H (by simp)
   ·rw [if_neg c3] at H; have aD : decide (x5_1 < (x0_1.length : Int)) = false := decide_eq_false c3; clear c3; simp only [Option.some.injEq, Prod.mk.injEq] at H; obtain ⟨rfl, rfl⟩ := H; obtain ⟨aY, aZ, aE⟩ := Kd.R_slice aa.out; subst aE
    go_wp2
    go_ret; exact ⟨vw, by (with_reducible repeat (first | apply Kd.R_alloc | apply Kd.R_drewN | apply Kd.R_drew)); exact aa.out, by repeat (first | (with_reducible first | exact HB.out | apply below_alloc | apply pw_below_drewN | apply below_drew1) | exact HB.out), by repeat (first | (with_reducible first | exact HK.out | apply Kept.alloc | apply Kept.drewN | apply Kept.drew) | exact HK.out)⟩


/-! ### laws_markAuto: function 11 -/
def laws_markAuto.f (k : Nat) (a0_0 : Int) (a0_1 : Int) (a0_2 : Int) (l0_3 : List (S48)) (a1 : Int) : Option (Int × (List (S48))) := (laws_markEdgeS.f k l0_3 a1).bind fun bt339 => (some (bt339.1, bt339.2))
theorem laws_markAuto.mono : ∀ a0 a1 a2 a3 a4 k, LeO (laws_markAuto.f k a0 a1 a2 a3 a4) (laws_markAuto.f (k + 1) a0 a1 a2 a3 a4) := by
 intro a0 a1 a2 a3 a4 k
 unfold laws_markAuto.f
 repeat' first
   | (with_reducible exact laws_markEdgeS.mono _ _ _)
   | (with_reducible exact LeO.refl _)
   | (with_reducible exact LeO.none _)
   | (with_reducible refine LeO.ite ?_ ?_)
   | (with_reducible refine LeO.bind ?_ (fun _ => ?_))
   | exact laws_markEdgeS.mono _ _ _
   | exact LeO.none _
   | refine LeO.ite ?_ ?_
   | refine LeO.bind ?_ (fun _ => ?_)
open Go.Proofs.Ytnflbjdmbaaokaa.Short2 in
set_option maxHeartbeats 8000000 in
set_option maxRecDepth 100000 in
theorem laws_markAuto.calls (k : Nat) (a0_0 : Int) (a0_1 : Int) (a0_2 : Int) (P0_3_ : Nat → Prop) (u9000_ : Value) (l0_3 : List (S48)) (a1 : Int) (r1 : Int) (r2 : List (S48)) (w0 w : World) (hB : Below w0.heap.size w0 w) (ho0_3 : Kd.R k48 48 w w0.heap.size P0_3_ u9000_ l0_3) (h : laws_markAuto.f k a0_0 a0_1 a0_2 l0_3 a1 = some (r1, r2)) :
  Calls Try.prog 11 #[.agg #[.int .i64 a0_0, .int .i64 a0_1, .int .i64 a0_2, u9000_], .int .i64 a1] w fun e w' => e = .returned (.int .i64 r1) ∧ Kd.R k48 48 w' w0.heap.size (fun k_ => (P0_3_ k_ ∨ w.heap.size ≤ k_)) u9000_ r2 ∧ Below w0.heap.size w0 w' ∧ Kept w w' (fun k_ => P0_3_ k_) := by
 have hu28 := Try.underlying28; have HO0_3 := Aside0.mk (show Kd.R k48 48 w w0.heap.size (fun k_ => (P0_3_ k_ ∨ w.heap.size ≤ k_)) u9000_ l0_3 from Kd.R_mono ho0_3 (fun k_ hk => (.inl hk))); have HK := Aside0.mk (Kept.refl w (fun k_ => P0_3_ k_)); have HW0 := Aside0.mk hB.size; have HB := Aside0.mk hB; clear hB; have H : ((laws_markEdgeS.f k l0_3 a1).bind fun bt339 => (some (bt339.1, bt339.2))) = some (r1, r2) := h; clear h; replace H := bI H; obtain ⟨⟨ak, al⟩, am, H⟩ := H; replace H : (some (ak, al)) = some (r1, r2) := H; have A3 := Aside0.mk am; clear am; simp only [Option.some.injEq, Prod.mk.injEq] at H; obtain ⟨rfl, rfl⟩ := H; obtain ⟨af, ag, aq⟩ := Kd.R_slice HO0_3.out; subst aq
 go_enter Try.func11, Try.ntmps11
 go_wp2_with (first | ((with_reducible refine gate_dst (N := 2) rfl ?_); refine bx_ 2 #[.int .i64 a0_0, .int .i64 a0_1, .int .i64 a0_2, .slice af l0_3.length ag] 28 ?_; intro ah hg w5 hbox hb; have ab := xR HO0_3 hb; have ac := Aside0.mk (Kept.below (S := (fun k_ => P0_3_ k_)) (by repeat (first | (with_reducible first | exact HK.out | apply Kept.alloc | apply Kept.drewN | apply Kept.drew) | exact HK.out)) hb); have ad := xS HB hb; have ae := Aside0.mk (hbox); have an := Aside0.mk ((by rw [hg]; exact (by first | exact HK.out.1 | exact (show Kept w _ (fun k_ => P0_3_ k_) from by repeat (first | (with_reducible first | exact HK.out | apply Kept.alloc | apply Kept.drewN | apply Kept.drew) | exact HK.out)).1) : w.heap.size ≤ ah)); have ao := Aside0.mk ((by rw [hg]; exact (below_size (zS HB.out)) : w0.heap.size ≤ ah)); clear HO0_3; clear HK; clear HB; have HO0_3 := ab; have HK := ac; have HB := ad; have aa := ae; have ai := an; have aj := ao; clear ab ac ad ae an ao; clear hb hbox hg; obtain ⟨ar, au, av, aw, ax, ay, az, aA⟩ := cz4 aa) | ((with_reducible refine gate_callee (f := 29) rfl ?_); refine gl_ (some 8) Try.func29 #[.slice af l0_3.length ag, .int .i64 a1] ?_; (with_reducible refine (laws_markEdgeS.calls k (fun k_ => some k_ = (.slice af l0_3.length ag : Value).ownBlock) (.slice af l0_3.length ag) l0_3 a1 ak al w0 _ ?side1 ?side2 A3.out).mono ?_); (case side1 => repeat (first | (with_reducible first | exact HB.out | apply below_alloc | apply pw_below_drewN | apply below_drew1 | refine below_set ?_ aj.out) | exact HB.out)); (case side2 => exact Kd.R_tight rfl HO0_3.out); rintro e w7 ⟨rfl, ap, hb, hkp⟩; refine ⟨_, rfl, ?_⟩; have ab := Aside0.mk (Kd.R_reok rfl ap (fun k_ e_ => HO0_3.out.1 k_ e_)); have ac := Aside0.mk (blk_kept (zB aa.out) hkp (fun hs_ => (fun e_ => (Kd.R_ne HO0_3.out aa.out (by decide)) e_) hs_)); have ad := Aside0.mk (Kept.then_ (S := (fun k_ => P0_3_ k_)) (by repeat (first | (with_reducible first | exact HK.out | apply Kept.alloc | apply Kept.drewN | apply Kept.drew | refine Kept.setCell ?_ (.inr ai.out) _) | exact HK.out)) hkp (fun k_ hs_ => (fun e_ => (HO0_3.out.1 k_ e_.symm)) hs_)); have ae := Aside0.mk (hb); clear HO0_3; clear aa; clear HK; clear HB; have HO0_3 := ab; have aa := ac; have HK := ad; have HB := ae; clear ab ac ad ae; (try clear hb); (try clear hkp); (try clear ap)))
 go_ret; exact ⟨vw, by (with_reducible repeat (first | apply Kd.R_alloc | apply Kd.R_drewN | apply Kd.R_drew)); exact HO0_3.out, by repeat (first | (with_reducible first | exact HB.out | apply below_alloc | apply pw_below_drewN | apply below_drew1 | refine below_set ?_ aj.out) | exact HB.out), by repeat (first | (with_reducible first | exact HK.out | apply Kept.alloc | apply Kept.drewN | apply Kept.drew | refine Kept.setCell ?_ (.inr ai.out) _) | exact HK.out)⟩


/-! ### laws_heldEdgeS: function 30 -/
def laws_heldEdgeS.l0 : Nat → List (S48) → Int → Int → Option (Int)
 | 0, _, _, _ => none
 | k + 1, x0, x1, x5 => if x5 < (x0.length : Int) then (if 0 ≤ x5 then (if ((rd_T48 x0 x5).f0) = x1 then (if ((rd_T48 x0 x5).f1) = (wrap64 (x1 + 1)) then (if ((rd_T48 x0 x5).f2) = (wrap64 ((wrap64 (x1 + 1)) + 1)) then (if (((rd_T48 x0 x5).f3) != ((Int.tmod (wrap64 ((wrap64 ((wrap64 (x1 + 1)) + 1)) + 1)) 3) == 0)) = true then (some (-1)) else (laws_heldEdgeS.l0 k x0 (wrap64 ((wrap64 ((wrap64 ((wrap64 (x1 + 1)) + 1)) + 1)) + 1)) (wrap64 (x5 + 1)))) else (some (-1))) else (some (-1))) else (some (-1))) else (none)) else (some x1)
def laws_heldEdgeS.f (k : Nat) (l0 : List (S48)) (a1 : Int) : Option (Int) := laws_heldEdgeS.l0 k l0 a1 0
theorem laws_heldEdgeS.mono_l : ∀ k, (∀ y0 y1 y2, LeO (laws_heldEdgeS.l0 k y0 y1 y2) (laws_heldEdgeS.l0 (k + 1) y0 y1 y2))
 | 0 => fun _ _ _ r h => by simp [laws_heldEdgeS.l0] at h
 | k + 1 => by
  have ih0 := laws_heldEdgeS.mono_l k
  ·intro y0 y1 y2
   unfold laws_heldEdgeS.l0
   repeat' first
   | (with_reducible exact ih0 _ _ _)
   | (with_reducible exact LeO.refl _)
   | (with_reducible exact LeO.none _)
   | (with_reducible refine LeO.ite ?_ ?_)
   | (with_reducible refine LeO.bind ?_ (fun _ => ?_))
   | exact ih0 _ _ _
   | exact LeO.none _
   | refine LeO.ite ?_ ?_
   | refine LeO.bind ?_ (fun _ => ?_)
theorem laws_heldEdgeS.mono : ∀ a0 a1 k, LeO (laws_heldEdgeS.f k a0 a1) (laws_heldEdgeS.f (k + 1) a0 a1) := by
 intro a0 a1 k
 have ih0 := laws_heldEdgeS.mono_l k
 unfold laws_heldEdgeS.f
 repeat' first
   | (with_reducible exact ih0 _ _ _)
   | (with_reducible exact LeO.refl _)
   | (with_reducible exact LeO.none _)
   | (with_reducible refine LeO.ite ?_ ?_)
   | (with_reducible refine LeO.bind ?_ (fun _ => ?_))
   | exact ih0 _ _ _
   | exact LeO.none _
   | refine LeO.ite ?_ ?_
   | refine LeO.bind ?_ (fun _ => ?_)
open Go.Proofs.Ytnflbjdmbaaokaa.Short2 in
set_option maxHeartbeats 8000000 in
set_option maxRecDepth 100000 in
theorem laws_heldEdgeS.calls (k : Nat) (A0 : Option Addr) (c0 : Nat) (l0 : List (S48)) (a1 : Int) (r : Int) (w : World) (hr0 : Kd.C k48 w A0 l0.length l0) (hc0 : l0.length ≤ c0) (h : laws_heldEdgeS.f k l0 a1 = some r) :
  Calls Try.prog 30 #[.slice A0 l0.length c0, .int .i64 a1] w fun e w' => e = .returned (.int .i64 r) ∧ Drawn0 w w' := by
 have HR0 := Aside0.mk hr0; have HC0 := Aside0.mk hc0; clear hr0 hc0; have H : (laws_heldEdgeS.l0 k l0 a1 0) = some r := h; clear h; have H' := Aside0.mk H; clear H
 go_enter Try.func30, Try.ntmps30
 go_wp2
 go_loopg [1, 5] k (fun kq v1 v5 w' => ∃ (x1_1 : Int) (x5_1 : Int), v1 = .int .i64 x1_1 ∧ v5 = .int .i64 x5_1 ∧ Aside0 (laws_heldEdgeS.l0 kq l0 x1_1 x5_1 = some r) ∧ Aside0 (kq ≤ k) ∧ Drawn0 w w')
 case atStart => exact ⟨(a1), (0), vv, vv, H', ⟨Nat.le_refl _⟩, by repeat (first | exact Drawn0.refl _ | apply Drawn0.step)⟩
 case round =>
  clear H'
  try clear p2
  obtain ⟨x1_1, x5_1, rfl, rfl, HA, HK1, ⟨m1, rfl⟩⟩ := hrel
  cases gk with
  | zero => exact absurd HA.out (by simp [laws_heldEdgeS.l0])
  | succ k1 =>
   have H := HA.out; clear HA; simp only [laws_heldEdgeS.l0] at H
   by_cases c3 : x5_1 < (l0.length : Int)
   ·rw [if_pos c3] at H; have aw : decide (x5_1 < (l0.length : Int)) = true := decide_eq_true c3; clear c3
    by_cases c4 : 0 ≤ x5_1
    ·rw [if_pos c4] at H; have aG : decide (0 ≤ x5_1) = true := decide_eq_true c4; clear c4
     by_cases c5 : ((rd_T48 l0 x5_1).f0) = x1_1
     ·rw [if_pos c5] at H; have ax : (((rd_T48 l0 x5_1).f0) == x1_1) = true := beq_iff_eq.mpr c5; have ay : (((rd_T48 l0 x5_1).f0) != x1_1) = false := bne_eq_false_iff_eq.mpr c5; clear c5
      by_cases c6 : ((rd_T48 l0 x5_1).f1) = (wrap64 (x1_1 + 1))
      ·rw [if_pos c6] at H; have az : (((rd_T48 l0 x5_1).f1) == (wrap64 (x1_1 + 1))) = true := beq_iff_eq.mpr c6; have aA : (((rd_T48 l0 x5_1).f1) != (wrap64 (x1_1 + 1))) = false := bne_eq_false_iff_eq.mpr c6; clear c6
       by_cases c7 : ((rd_T48 l0 x5_1).f2) = (wrap64 ((wrap64 (x1_1 + 1)) + 1))
       ·rw [if_pos c7] at H; have aB : (((rd_T48 l0 x5_1).f2) == (wrap64 ((wrap64 (x1_1 + 1)) + 1))) = true := beq_iff_eq.mpr c7; have aC : (((rd_T48 l0 x5_1).f2) != (wrap64 ((wrap64 (x1_1 + 1)) + 1))) = false := bne_eq_false_iff_eq.mpr c7; clear c7
        by_cases c8 : (((rd_T48 l0 x5_1).f3) != ((Int.tmod (wrap64 ((wrap64 ((wrap64 (x1_1 + 1)) + 1)) + 1)) 3) == 0)) = true
        ·rw [if_pos c8] at H; have aD : (((rd_T48 l0 x5_1).f3) != ((Int.tmod (wrap64 ((wrap64 ((wrap64 (x1_1 + 1)) + 1)) + 1)) 3) == 0)) = true := c8
         (try (have aE : decide (((rd_T48 l0 x5_1).f3) = ((Int.tmod (wrap64 ((wrap64 ((wrap64 (x1_1 + 1)) + 1)) + 1)) 3) == 0)) = false := by simpa using c8))
         (try (have aF : (((rd_T48 l0 x5_1).f3) == ((Int.tmod (wrap64 ((wrap64 ((wrap64 (x1_1 + 1)) + 1)) + 1)) 3) == 0)) = false := by simpa using c8))
         (try (have aH : ¬ (((rd_T48 l0 x5_1).f3) = ((Int.tmod (wrap64 ((wrap64 ((wrap64 (x1_1 + 1)) + 1)) + 1)) 3) == 0)) := by simpa using c8))
         clear c8; obtain rfl := Option.some.inj H; have aa : 0 ≤ (x5_1 : Int) := oD; have q341 : x5_1 < (l0.length : Int) := oD; obtain ⟨ad341, e341, ad, ae, af, ag⟩ := at_T48 HR0.out x5_1 aa q341
         cases e341
         replace aa := eq_true aa; replace q341 := eq_true q341; have ab : 0 ≤ (x5_1 : Int) := oD; have q342 : x5_1 < (l0.length : Int) := oD; obtain ⟨ad342, e342, ai, aj, ak, al⟩ := at_T48 HR0.out x5_1 ab q342; obtain rfl : ad341 = ad342 := (by injection e342); replace ab := eq_true ab; replace q342 := eq_true q342; have ac : 0 ≤ (x5_1 : Int) := oD; have q343 : x5_1 < (l0.length : Int) := oD; obtain ⟨ad343, e343, am, an, ao, ap⟩ := at_T48 HR0.out x5_1 ac q343; obtain rfl : ad341 = ad343 := (by injection e343); replace ac := eq_true ac; replace q343 := eq_true q343; have ah : 0 ≤ (x5_1 : Int) := oD; have q344 : x5_1 < (l0.length : Int) := oD; obtain ⟨ad344, e344, aq, ar, au, av⟩ := at_T48 HR0.out x5_1 ah q344; obtain rfl : ad341 = ad344 := (by injection e344); replace ah := eq_true ah; replace q344 := eq_true q344
         go_wp2
         go_ret; exact ⟨by first | rfl | (simp; done) | (simp [*]; done), by repeat (first | exact Drawn0.refl _ | apply Drawn0.step)⟩
        ·rw [if_neg c8] at H
         have aD : (((rd_T48 l0 x5_1).f3) != ((Int.tmod (wrap64 ((wrap64 ((wrap64 (x1_1 + 1)) + 1)) + 1)) 3) == 0)) = false := by simpa using c8
         (try (have aE : decide (((rd_T48 l0 x5_1).f3) = ((Int.tmod (wrap64 ((wrap64 ((wrap64 (x1_1 + 1)) + 1)) + 1)) 3) == 0)) = true := by simpa using c8))
         (try (have aF : (((rd_T48 l0 x5_1).f3) == ((Int.tmod (wrap64 ((wrap64 ((wrap64 (x1_1 + 1)) + 1)) + 1)) 3) == 0)) = true := by simpa using c8))
         clear c8; have H' := Aside0.mk H; clear H; have aa : 0 ≤ (x5_1 : Int) := oD; have q341 : x5_1 < (l0.length : Int) := oD; obtain ⟨ad341, e341, ad, ae, af, ag⟩ := at_T48 HR0.out x5_1 aa q341
         cases e341
         replace aa := eq_true aa; replace q341 := eq_true q341; have ab : 0 ≤ (x5_1 : Int) := oD; have q342 : x5_1 < (l0.length : Int) := oD; obtain ⟨ad342, e342, ai, aj, ak, al⟩ := at_T48 HR0.out x5_1 ab q342; obtain rfl : ad341 = ad342 := (by injection e342); replace ab := eq_true ab; replace q342 := eq_true q342; have ac : 0 ≤ (x5_1 : Int) := oD; have q343 : x5_1 < (l0.length : Int) := oD; obtain ⟨ad343, e343, am, an, ao, ap⟩ := at_T48 HR0.out x5_1 ac q343; obtain rfl : ad341 = ad343 := (by injection e343); replace ac := eq_true ac; replace q343 := eq_true q343; have ah : 0 ≤ (x5_1 : Int) := oD; have q344 : x5_1 < (l0.length : Int) := oD; obtain ⟨ad344, e344, aq, ar, au, av⟩ := at_T48 HR0.out x5_1 ah q344; obtain rfl : ad341 = ad344 := (by injection e344); replace ah := eq_true ah; replace q344 := eq_true q344
         go_wp2
         go_roundg k1
         case measure => have := HK1.out; omega
         case rel => exact ⟨(wrap64 ((wrap64 ((wrap64 ((wrap64 (x1_1 + 1)) + 1)) + 1)) + 1)), (wrap64 (x5_1 + 1)), vv, vv, H', ⟨by have := HK1.out; omega⟩, by repeat (first | exact Drawn0.refl _ | apply Drawn0.step)⟩
       ·rw [if_neg c7] at H; have aB : (((rd_T48 l0 x5_1).f2) == (wrap64 ((wrap64 (x1_1 + 1)) + 1))) = false := beq_eq_false_iff_ne.mpr c7; have aC : (((rd_T48 l0 x5_1).f2) != (wrap64 ((wrap64 (x1_1 + 1)) + 1))) = true := bne_iff_ne.mpr c7; obtain rfl := Option.some.inj H; have aa : 0 ≤ (x5_1 : Int) := oD; have q341 : x5_1 < (l0.length : Int) := oD; obtain ⟨ad341, e341, ad, ae, af, ag⟩ := at_T48 HR0.out x5_1 aa q341
        cases e341
        replace aa := eq_true aa; replace q341 := eq_true q341; have ab : 0 ≤ (x5_1 : Int) := oD; have q342 : x5_1 < (l0.length : Int) := oD; obtain ⟨ad342, e342, ai, aj, ak, al⟩ := at_T48 HR0.out x5_1 ab q342; obtain rfl : ad341 = ad342 := (by injection e342); replace ab := eq_true ab; replace q342 := eq_true q342; have ac : 0 ≤ (x5_1 : Int) := oD; have q343 : x5_1 < (l0.length : Int) := oD; obtain ⟨ad343, e343, am, an, ao, ap⟩ := at_T48 HR0.out x5_1 ac q343; obtain rfl : ad341 = ad343 := (by injection e343); replace ac := eq_true ac; replace q343 := eq_true q343
        go_wp2
        go_ret; exact ⟨by first | rfl | (simp; done) | (simp [*]; done), by repeat (first | exact Drawn0.refl _ | apply Drawn0.step)⟩
      ·rw [if_neg c6] at H; have az : (((rd_T48 l0 x5_1).f1) == (wrap64 (x1_1 + 1))) = false := beq_eq_false_iff_ne.mpr c6; have aA : (((rd_T48 l0 x5_1).f1) != (wrap64 (x1_1 + 1))) = true := bne_iff_ne.mpr c6; obtain rfl := Option.some.inj H; have aa : 0 ≤ (x5_1 : Int) := oD; have q341 : x5_1 < (l0.length : Int) := oD; obtain ⟨ad341, e341, ad, ae, af, ag⟩ := at_T48 HR0.out x5_1 aa q341
       cases e341
       replace aa := eq_true aa; replace q341 := eq_true q341; have ab : 0 ≤ (x5_1 : Int) := oD; have q342 : x5_1 < (l0.length : Int) := oD; obtain ⟨ad342, e342, ai, aj, ak, al⟩ := at_T48 HR0.out x5_1 ab q342; obtain rfl : ad341 = ad342 := (by injection e342); replace ab := eq_true ab; replace q342 := eq_true q342
       go_wp2
       go_ret; exact ⟨by first | rfl | (simp; done) | (simp [*]; done), by repeat (first | exact Drawn0.refl _ | apply Drawn0.step)⟩
     ·rw [if_neg c5] at H; have ax : (((rd_T48 l0 x5_1).f0) == x1_1) = false := beq_eq_false_iff_ne.mpr c5; have ay : (((rd_T48 l0 x5_1).f0) != x1_1) = true := bne_iff_ne.mpr c5; obtain rfl := Option.some.inj H; have aa : 0 ≤ (x5_1 : Int) := oD; have q341 : x5_1 < (l0.length : Int) := oD; obtain ⟨ad341, e341, ad, ae, af, ag⟩ := at_T48 HR0.out x5_1 aa q341
      cases e341
      replace aa := eq_true aa; replace q341 := eq_true q341
      go_wp2
      go_ret; exact ⟨by first | rfl | (simp; done) | (simp [*]; done), by repeat (first | exact Drawn0.refl _ | apply Drawn0.step)⟩
    ·rw [if_neg c4] at H; exact absurd H (by simp)
   ·rw [if_neg c3] at H; have aw : decide (x5_1 < (l0.length : Int)) = false := decide_eq_false c3; clear c3; obtain rfl := Option.some.inj H
    go_wp2
    go_ret; exact ⟨by first | rfl | (simp; done) | (simp [*]; done), by repeat (first | exact Drawn0.refl _ | apply Drawn0.step)⟩


/-! ### laws_heldAuto: function 12 -/
def laws_heldAuto.f (k : Nat) (a0_0 : Int) (a0_1 : Int) (a0_2 : Int) (l0_3 : List (S48)) (a1 : Int) : Option (Int) := (laws_heldEdgeS.f k l0_3 a1).bind fun t346 => (if t346 < 0 then (some (-1)) else (some t346))
theorem laws_heldAuto.mono : ∀ a0 a1 a2 a3 a4 k, LeO (laws_heldAuto.f k a0 a1 a2 a3 a4) (laws_heldAuto.f (k + 1) a0 a1 a2 a3 a4) := by
 intro a0 a1 a2 a3 a4 k
 unfold laws_heldAuto.f
 repeat' first
   | (with_reducible exact laws_heldEdgeS.mono _ _ _)
   | (with_reducible exact LeO.refl _)
   | (with_reducible exact LeO.none _)
   | (with_reducible refine LeO.ite ?_ ?_)
   | (with_reducible refine LeO.bind ?_ (fun _ => ?_))
   | exact laws_heldEdgeS.mono _ _ _
   | exact LeO.none _
   | refine LeO.ite ?_ ?_
   | refine LeO.bind ?_ (fun _ => ?_)
open Go.Proofs.Ytnflbjdmbaaokaa.Short2 in
set_option maxHeartbeats 8000000 in
set_option maxRecDepth 100000 in
theorem laws_heldAuto.calls (k : Nat) (a0_0 : Int) (a0_1 : Int) (a0_2 : Int) (A0_3 : Option Addr) (c0_3 : Nat) (l0_3 : List (S48)) (a1 : Int) (r : Int) (w : World) (hr0_3 : Kd.C k48 w A0_3 l0_3.length l0_3) (hc0_3 : l0_3.length ≤ c0_3) (h : laws_heldAuto.f k a0_0 a0_1 a0_2 l0_3 a1 = some r) :
  Calls Try.prog 12 #[.agg #[.int .i64 a0_0, .int .i64 a0_1, .int .i64 a0_2, .slice A0_3 l0_3.length c0_3], .int .i64 a1] w fun e w' => e = .returned (.int .i64 r) ∧ Below w.heap.size w w' := by
 have hu28 := Try.underlying28; have HR0_3 := Aside0.mk hr0_3; have HC0_3 := Aside0.mk hc0_3; clear hr0_3 hc0_3; have HB := Aside0.mk (Below.refl w.heap.size w); have H : ((laws_heldEdgeS.f k l0_3 a1).bind fun aa => (if aa < 0 then (some (-1)) else (some aa))) = some r := h; clear h; replace H := bI H; obtain ⟨aa, af, H⟩ := H; replace H : (if aa < 0 then (some (-1)) else (some aa)) = some r := H; have A3 := Aside0.mk af; clear af
 by_cases c4 : aa < 0
 ·rw [if_pos c4] at H; have ag : decide (aa < 0) = true := decide_eq_true c4; clear c4; obtain rfl := Option.some.inj H
  go_enter Try.func12, Try.ntmps12
  go_wp2_with (first | ((with_reducible refine gate_dst (N := 2) rfl ?_); refine bx_ 2 #[.int .i64 a0_0, .int .i64 a0_1, .int .i64 a0_2, .slice A0_3 l0_3.length c0_3] 28 ?_; intro ac hg w5 hbox hb; have ab := Aside0.mk (hbox); have ad := xG HB hg; have ae := xG HB hg; replace HB := xS HB hb; clear hb hbox hg; obtain ⟨ah, ai, aj, ak, al, am, an, ao⟩ := cz4 ab) | ((with_reducible refine gate_callee (f := 30) rfl ?_); refine gl_ (some 8) Try.func30 #[.slice A0_3 l0_3.length c0_3, .int .i64 a1] ?_; (with_reducible refine (laws_heldEdgeS.calls k _ _ l0_3 a1 aa _ ?side1 ?side2 A3.out).mono ?_); (case side1 => exact zC (Kd.C_below HR0_3.out HB.out)); (case side2 => exact HC0_3.out); rintro e w' ⟨rfl, ⟨nd, rfl⟩⟩; refine ⟨_, rfl, ?_⟩))
  go_ret; exact ⟨vw, zS HB.out⟩
 ·rw [if_neg c4] at H; have ag : decide (aa < 0) = false := decide_eq_false c4; clear c4; obtain rfl := Option.some.inj H
  go_enter Try.func12, Try.ntmps12
  go_wp2_with (first | ((with_reducible refine gate_dst (N := 2) rfl ?_); refine bx_ 2 #[.int .i64 a0_0, .int .i64 a0_1, .int .i64 a0_2, .slice A0_3 l0_3.length c0_3] 28 ?_; intro ac hg w7 hbox hb; have ab := Aside0.mk (hbox); have ad := xG HB hg; have ae := xG HB hg; replace HB := xS HB hb; clear hb hbox hg; obtain ⟨ap, aq, ar, au, av, aw, ax, ay⟩ := cz4 ab) | ((with_reducible refine gate_callee (f := 30) rfl ?_); refine gl_ (some 8) Try.func30 #[.slice A0_3 l0_3.length c0_3, .int .i64 a1] ?_; (with_reducible refine (laws_heldEdgeS.calls k _ _ l0_3 a1 aa _ ?side1 ?side2 A3.out).mono ?_); (case side1 => exact zC (Kd.C_below HR0_3.out HB.out)); (case side2 => exact HC0_3.out); rintro e w' ⟨rfl, ⟨nd, rfl⟩⟩; refine ⟨_, rfl, ?_⟩))
  go_ret; exact ⟨vw, zS HB.out⟩

end Go.Proofs.Ytnflbjdmbaaokaa.MFnExactGenDegen
