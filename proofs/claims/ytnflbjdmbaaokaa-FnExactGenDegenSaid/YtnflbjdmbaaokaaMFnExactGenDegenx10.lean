-- Written by a program of this session, out of Lean's print of the translation. Not trusted: Lean checks it.
import Derived.Test.YtnflbjdmbaaokaaMFnExactGenDegenx0
import Derived.Test.YtnflbjdmbaaokaaMFnExactGenDegenx7
import Derived.Test.YtnflbjdmbaaokaaMFnExactGenDegenx9
namespace Go.Proofs.Ytnflbjdmbaaokaa.MFnExactGenDegen
open Go.RowKit Go.Proofs.YtnflbjdmbaaokaaW.PrintWords Go.Proofs.YtnflbjdmbaaokaaW.PrintLast Go.Proofs.YtnflbjdmbaaokaaW.PrintMore Go.Proofs.Ytnflbjdmbaaokaa.Short6
attribute [local go_sem] max2_int min2_int max_two min_two max_three min_three max_four min_four   -- for this text's walks alone
set_option linter.unusedVariables false
set_option linter.unusedSimpArgs false

section
open Go.Proofs.Ytnflbjdmbaaokaa.Short2.T
abbrev impl_AutoOk.bl0 : Array Bool := #[f, f, f, f, f, f, f, f, f, f, f, f, f]
abbrev impl_AutoOk.bl1 : Array Bool := #[t, f, f, f, f, f, f, f, f, f, f, f, f]
abbrev impl_AutoOk.bl2 : Array Bool := #[t, t, f, f, f, f, f, f, f, f, f, f, f]
abbrev impl_AutoOk.bl3 : Array Bool := #[t, t, t, f, f, f, f, f, f, f, f, f, f]
abbrev impl_AutoOk.bl4 : Array Bool := #[t, t, t, t, f, f, f, f, f, f, f, f, f]
abbrev impl_AutoOk.bl5 : Array Bool := #[t, t, t, t, f, t, f, f, f, f, f, f, f]
abbrev impl_AutoOk.bl6 : Array Bool := #[t, t, t, t, f, t, t, f, f, f, f, f, f]
abbrev impl_AutoOk.bl7 : Array Bool := #[t, t, t, t, t, t, t, f, f, f, f, f, f]
abbrev impl_AutoOk.bl8 : Array Bool := #[t, t, t, t, t, t, t, t, f, f, f, f, f]
abbrev impl_AutoOk.bl9 : Array Bool := #[t, t, t, t, t, t, t, t, t, f, f, f, f]
abbrev impl_AutoOk.bl10 : Array Bool := #[t, t, t, t, t, t, t, t, t, t, f, f, f]
abbrev impl_AutoOk.bl11 : Array Bool := #[t, t, t, t, t, t, t, t, t, t, t, f, f]
abbrev impl_AutoOk.bl12 : Array Bool := #[t, t, t, t, t, t, t, t, t, t, t, t, f]
abbrev impl_AutoOk.bl13 : Array Bool := #[t, t, t, t, t, t, t, t, t, t, t, t, t]
abbrev impl_AutoOk.bl14 : Array Bool := #[t, t, t, t, t, f, f, f, f, f, f, f, f]
abbrev impl_AutoOk.bl15 : Array Bool := #[t, t, t, t, t, t, f, f, f, f, f, f, f]
end
/-! ### impl_AutoOk: function 45 -/
mutual
def impl_AutoOk.j0 : Nat → Bool → Int → Int → Int → List (S48) → Option (Bool)
 | 0, _, _, _, _, _ => none
 | k + 1, x18, x274000, x274001, x274002, x274003 => if x18 = true then (some false) else (impl_AutoOk.l0 k x274003 (x274003.length : Int) 0 x274000 x274001 x274002 x274003)
def impl_AutoOk.l0 : Nat → List (S48) → Int → Int → Int → Int → Int → List (S48) → Option (Bool)
 | 0, _, _, _, _, _, _, _ => none
 | k + 1, x20, x21, x22, x274000, x274001, x274002, x274003 => if x22 < x21 then (if 0 ≤ x22 then (if x22 < (x20.length : Int) then ((impl_inRange.f ((rd_T48 x20 x22).f0) 0 (wrap64 (x274001 - 1))).bind fun t277 => (if t277 = true then ((impl_inRange.f ((rd_T48 x20 x22).f2) 0 (wrap64 (x274001 - 1))).bind fun t278 => (if t278 = true then ((impl_inRange.f ((rd_T48 x20 x22).f1) 0 (wrap64 (x274000 - 1))).bind fun t279 => (impl_AutoOk.j2 k x22 x20 x21 x22 (!t279) x274000 x274001 x274002 x274003 ((rd_T48 x20 x22).f0) ((rd_T48 x20 x22).f1) ((rd_T48 x20 x22).f2) ((rd_T48 x20 x22).f3))) else (impl_AutoOk.j2 k x22 x20 x21 x22 true x274000 x274001 x274002 x274003 ((rd_T48 x20 x22).f0) ((rd_T48 x20 x22).f1) ((rd_T48 x20 x22).f2) ((rd_T48 x20 x22).f3)))) else (impl_AutoOk.j2 k x22 x20 x21 x22 true x274000 x274001 x274002 x274003 ((rd_T48 x20 x22).f0) ((rd_T48 x20 x22).f1) ((rd_T48 x20 x22).f2) ((rd_T48 x20 x22).f3)))) else (none)) else (none)) else (some true)
def impl_AutoOk.j2 : Nat → Int → List (S48) → Int → Int → Bool → Int → Int → Int → List (S48) → Int → Int → Int → Bool → Option (Bool)
 | 0, _, _, _, _, _, _, _, _, _, _, _, _, _ => none
 | k + 1, x3, x20, x21, x22, x51, x274000, x274001, x274002, x274003, x277000, x277001, x277002, x277003 => if x51 = true then (some false) else (if x3 > 0 then (if 0 ≤ (wrap64 (x3 - 1)) then (if (wrap64 (x3 - 1)) < (x274003.length : Int) then ((impl_compareEdges.f k ((rd_T48 x274003 (wrap64 (x3 - 1))).f0) ((rd_T48 x274003 (wrap64 (x3 - 1))).f1) ((rd_T48 x274003 (wrap64 (x3 - 1))).f2) ((rd_T48 x274003 (wrap64 (x3 - 1))).f3) x277000 x277001 x277002 x277003).bind fun t281 => (if t281 ≥ 0 then (some false) else (impl_AutoOk.l0 k x20 x21 (wrap64 (x22 + 1)) x274000 x274001 x274002 x274003))) else (none)) else (none)) else (impl_AutoOk.l0 k x20 x21 (wrap64 (x22 + 1)) x274000 x274001 x274002 x274003))
end
def impl_AutoOk.f (k : Nat) (a0_0 : Int) (a0_1 : Int) (a0_2 : Int) (l0_3 : List (S48)) : Option (Bool) := (impl_headOk.f a0_0 a0_1 a0_2).bind fun t274 => (if t274 = true then (impl_AutoOk.j0 k (decide ((l0_3.length : Int) > 2000)) a0_0 a0_1 a0_2 l0_3) else (impl_AutoOk.j0 k true a0_0 a0_1 a0_2 l0_3))
theorem impl_AutoOk.mono_l : ∀ k, (∀ y0 y1 y2 y3 y4, LeO (impl_AutoOk.j0 k y0 y1 y2 y3 y4) (impl_AutoOk.j0 (k + 1) y0 y1 y2 y3 y4)) ∧ (∀ y0 y1 y2 y3 y4 y5 y6, LeO (impl_AutoOk.l0 k y0 y1 y2 y3 y4 y5 y6) (impl_AutoOk.l0 (k + 1) y0 y1 y2 y3 y4 y5 y6)) ∧ (∀ y0 y1 y2 y3 y4 y5 y6 y7 y8 y9 y10 y11 y12, LeO (impl_AutoOk.j2 k y0 y1 y2 y3 y4 y5 y6 y7 y8 y9 y10 y11 y12) (impl_AutoOk.j2 (k + 1) y0 y1 y2 y3 y4 y5 y6 y7 y8 y9 y10 y11 y12))
 | 0 => ⟨fun _ _ _ _ _ r h => by simp [impl_AutoOk.j0] at h, fun _ _ _ _ _ _ _ r h => by simp [impl_AutoOk.l0] at h, fun _ _ _ _ _ _ _ _ _ _ _ _ _ r h => by simp [impl_AutoOk.j2] at h⟩
 | k + 1 => by
  obtain ⟨ih0, ih1, ih2⟩ := impl_AutoOk.mono_l k
  refine ⟨?_, ?_, ?_⟩
  ·intro y0 y1 y2 y3 y4
   unfold impl_AutoOk.j0
   repeat' first
   | (with_reducible exact ih0 _ _ _ _ _)
   | (with_reducible exact ih1 _ _ _ _ _ _ _)
   | (with_reducible exact ih2 _ _ _ _ _ _ _ _ _ _ _ _ _)
   | (with_reducible exact impl_compareEdges.mono _ _ _ _ _ _ _ _ _)
   | (with_reducible exact LeO.refl _)
   | (with_reducible exact LeO.none _)
   | (with_reducible refine LeO.ite ?_ ?_)
   | (with_reducible refine LeO.bind ?_ (fun _ => ?_))
   | exact ih0 _ _ _ _ _
   | exact ih1 _ _ _ _ _ _ _
   | exact ih2 _ _ _ _ _ _ _ _ _ _ _ _ _
   | exact impl_compareEdges.mono _ _ _ _ _ _ _ _ _
   | exact LeO.none _
   | refine LeO.ite ?_ ?_
   | refine LeO.bind ?_ (fun _ => ?_)
  ·intro y0 y1 y2 y3 y4 y5 y6
   unfold impl_AutoOk.l0
   repeat' first
   | (with_reducible exact ih0 _ _ _ _ _)
   | (with_reducible exact ih1 _ _ _ _ _ _ _)
   | (with_reducible exact ih2 _ _ _ _ _ _ _ _ _ _ _ _ _)
   | (with_reducible exact impl_compareEdges.mono _ _ _ _ _ _ _ _ _)
   | (with_reducible exact LeO.refl _)
   | (with_reducible exact LeO.none _)
   | (with_reducible refine LeO.ite ?_ ?_)
   | (with_reducible refine LeO.bind ?_ (fun _ => ?_))
   | exact ih0 _ _ _ _ _
   | exact ih1 _ _ _ _ _ _ _
   | exact ih2 _ _ _ _ _ _ _ _ _ _ _ _ _
   | exact impl_compareEdges.mono _ _ _ _ _ _ _ _ _
   | exact LeO.none _
   | refine LeO.ite ?_ ?_
   | refine LeO.bind ?_ (fun _ => ?_)
  ·intro y0 y1 y2 y3 y4 y5 y6 y7 y8 y9 y10 y11 y12
   unfold impl_AutoOk.j2
   repeat' first
   | (with_reducible exact ih0 _ _ _ _ _)
   | (with_reducible exact ih1 _ _ _ _ _ _ _)
   | (with_reducible exact ih2 _ _ _ _ _ _ _ _ _ _ _ _ _)
   | (with_reducible exact impl_compareEdges.mono _ _ _ _ _ _ _ _ _)
   | (with_reducible exact LeO.refl _)
   | (with_reducible exact LeO.none _)
   | (with_reducible refine LeO.ite ?_ ?_)
   | (with_reducible refine LeO.bind ?_ (fun _ => ?_))
   | exact ih0 _ _ _ _ _
   | exact ih1 _ _ _ _ _ _ _
   | exact ih2 _ _ _ _ _ _ _ _ _ _ _ _ _
   | exact impl_compareEdges.mono _ _ _ _ _ _ _ _ _
   | exact LeO.none _
   | refine LeO.ite ?_ ?_
   | refine LeO.bind ?_ (fun _ => ?_)
theorem impl_AutoOk.mono : ∀ a0 a1 a2 a3 k, LeO (impl_AutoOk.f k a0 a1 a2 a3) (impl_AutoOk.f (k + 1) a0 a1 a2 a3) := by
 intro a0 a1 a2 a3 k
 obtain ⟨ih0, ih1, ih2⟩ := impl_AutoOk.mono_l k
 unfold impl_AutoOk.f
 repeat' first
   | (with_reducible exact ih0 _ _ _ _ _)
   | (with_reducible exact ih1 _ _ _ _ _ _ _)
   | (with_reducible exact ih2 _ _ _ _ _ _ _ _ _ _ _ _ _)
   | (with_reducible exact impl_compareEdges.mono _ _ _ _ _ _ _ _ _)
   | (with_reducible exact LeO.refl _)
   | (with_reducible exact LeO.none _)
   | (with_reducible refine LeO.ite ?_ ?_)
   | (with_reducible refine LeO.bind ?_ (fun _ => ?_))
   | exact ih0 _ _ _ _ _
   | exact ih1 _ _ _ _ _ _ _
   | exact ih2 _ _ _ _ _ _ _ _ _ _ _ _ _
   | exact impl_compareEdges.mono _ _ _ _ _ _ _ _ _
   | exact LeO.none _
   | refine LeO.ite ?_ ?_
   | refine LeO.bind ?_ (fun _ => ?_)
def impl_AutoOk.T8 : Bool × List (List Nat × List Nat) := (true, [([], []), ([0], [0]), ([1], [1]), ([2], [2]), ([3, 2], [2, 3]), ([2], [2]), ([5, 2], [2, 5]), ([4, 6, 2], [2, 4, 6]), ([7, 2], [2, 7]), ([2], [2]), ([8, 9, 2, 2], [2, 8, 9]), ([10, 2], [2, 10]), ([2, 11], [2, 11])])
def impl_AutoOk.B8 : List Nat := [0, 1, 3, 7, 15, 7, 39, 127, 255, 7, 1023, 2047, 4095]
theorem impl_AutoOk.tab8 : rtab .any (opsOf Try.f45 8) = impl_AutoOk.T8 := by kernel_rfl
theorem impl_AutoOk.bits8 : waitsOk impl_AutoOk.T8.2 impl_AutoOk.B8 = true := by kernel_rfl
open Go.Proofs.Ytnflbjdmbaaokaa.Short2 in
set_option maxHeartbeats 8000000 in
set_option maxRecDepth 100000 in
theorem impl_AutoOk.calls (k : Nat) (a0_0 : Int) (a0_1 : Int) (a0_2 : Int) (A0_3 : Option Addr) (c0_3 : Nat) (l0_3 : List (S48)) (r : Bool) (w : World) (hr0_3 : Kd.C k48 w A0_3 l0_3.length l0_3) (hc0_3 : l0_3.length ≤ c0_3) (h : impl_AutoOk.f k a0_0 a0_1 a0_2 l0_3 = some r) :
  Calls Try.prog 45 #[.agg #[.int .i64 a0_0, .int .i64 a0_1, .int .i64 a0_2, .slice A0_3 l0_3.length c0_3]] w fun e w' => e = .returned (.bool r) ∧ Below w.heap.size w w' := by
 have hu28 := Try.underlying28; have hu48 := Try.underlying48; have HR0_3 := Aside0.mk hr0_3; have HC0_3 := Aside0.mk hc0_3; clear hr0_3 hc0_3; have HB := Aside0.mk (Below.refl w.heap.size w); have H : ((impl_headOk.f a0_0 a0_1 a0_2).bind fun aP => (if aP = true then (impl_AutoOk.j0 k (decide ((l0_3.length : Int) > 2000)) a0_0 a0_1 a0_2 l0_3) else (impl_AutoOk.j0 k true a0_0 a0_1 a0_2 l0_3))) = some r := h; clear h; have HC2 := Aside0.mk H; clear H
 go_enter Try.func45, Try.ntmps45
 go_upto_region 1 with (first | ((with_reducible refine gate_dst (N := 1) rfl ?_); (try (refine gate_guard (by rfl) ?_; dsimp only)); refine bx_ 1 #[.int .i64 a0_0, .int .i64 a0_1, .int .i64 a0_2, .slice A0_3 l0_3.length c0_3] 28 ?_; intro ah hg w3 hbox hb; have ab := Aside0.mk (hbox); have cG := xG HB hg; have cH := xG HB hg; replace HB := xS HB hb; clear hb hbox hg))
 (try simp only [Act.put, q3])
 go_cut [18] (fun cC wc => ∃ (kq : Nat) (av : Bool), cC = .bool av ∧ Aside0 (impl_AutoOk.j0 kq av a0_0 a0_1 a0_2 l0_3 = some r) ∧ Aside0 (kq ≤ k) ∧ Aside0 (wc.heap[ah]? = some (.cells #[.int .i64 a0_0, .int .i64 a0_1, .int .i64 a0_2, (.slice A0_3 l0_3.length c0_3)] 28 (0, 0))) ∧ Aside0 (Below w.heap.size w wc))
 case first =>
  have H := HC2.out; clear HC2; replace H := bI H; obtain ⟨aP, cy, H⟩ := H; replace H : (if aP = true then (impl_AutoOk.j0 k (decide ((l0_3.length : Int) > 2000)) a0_0 a0_1 a0_2 l0_3) else (impl_AutoOk.j0 k true a0_0 a0_1 a0_2 l0_3)) = some r := H; have A4 := Aside0.mk cy; clear cy
  by_cases c5 : aP = true
  ·subst c5
   have H1 : (impl_AutoOk.j0 k (decide ((l0_3.length : Int) > 2000)) a0_0 a0_1 a0_2 l0_3) = some r := by rw [if_pos rfl] at H; exact H
   clear H; have H := H1; clear H1; have H' := Aside0.mk H; clear H; obtain ⟨aw, ax, ay, az, aA, aB, aC, aD⟩ := cz4 ab
   go_wp2_with (first | ((with_reducible refine gate_callee (f := 37) rfl ?_); refine gl_ (some 11) Try.func37 #[.int .i64 a0_0, .int .i64 a0_1, .int .i64 a0_2] ?_; (with_reducible refine (impl_headOk.calls a0_0 a0_1 a0_2 true _ A4.out).mono ?_); rintro e w' ⟨rfl, ⟨nd, rfl⟩⟩; refine ⟨_, rfl, ?_⟩))
   go_meet
   case rel => exact ⟨_, (decide ((l0_3.length : Int) > 2000)), vv, H', ⟨by first | omega | exact Nat.le_refl _⟩, ⟨zB ab.out⟩, ⟨zS HB.out⟩⟩
  ·replace c5 := Bool.eq_false_iff.mpr c5; subst c5
   have H1 : (impl_AutoOk.j0 k true a0_0 a0_1 a0_2 l0_3) = some r := by rw [if_neg (show ¬ (false = true) by decide)] at H; exact H
   clear H; have H := H1; clear H1; have H' := Aside0.mk H; clear H; obtain ⟨aE, aF, aG, aH, aI, aJ, aK, aL⟩ := cz4 ab
   go_wp2_with (first | ((with_reducible refine gate_callee (f := 37) rfl ?_); refine gl_ (some 11) Try.func37 #[.int .i64 a0_0, .int .i64 a0_1, .int .i64 a0_2] ?_; (with_reducible refine (impl_headOk.calls a0_0 a0_1 a0_2 false _ A4.out).mono ?_); rintro e w' ⟨rfl, ⟨nd, rfl⟩⟩; refine ⟨_, rfl, ?_⟩))
   go_meet
   case rel => exact ⟨_, (true), vv, H', ⟨by first | omega | exact Nat.le_refl _⟩, ⟨zB ab.out⟩, ⟨zS HB.out⟩⟩
 case rest =>
  clear HC2
  try clear p2
  try clear c3
  try clear c4
  try clear c5
  try clear aw ax ay az
  try clear aE aF aG aH
  try clear aA
  try clear aB
  try clear aC
  try clear aD
  try clear aI
  try clear aJ
  try clear aK
  try clear aL
  obtain ⟨kq, av, rfl, HA, HJ1, ab, HB⟩ := hcut
  cases kq with
  | zero => exact absurd HA.out (by simp [impl_AutoOk.j0])
  | succ kj1 =>
   have H := HA.out; clear HA; simp only [impl_AutoOk.j0] at H
   by_cases c8 : av = true
   ·subst c8
    have H1 : (some false) = some r := by rw [if_pos rfl] at H; exact H
    clear H; have H := H1; clear H1; obtain rfl := Option.some.inj H
    go_wp2
    go_ret; exact ⟨vw, zS HB.out⟩
   ·replace c8 := Bool.eq_false_iff.mpr c8; subst c8
    have H1 : (impl_AutoOk.l0 kj1 l0_3 (l0_3.length : Int) 0 a0_0 a0_1 a0_2 l0_3) = some r := by rw [if_neg (show ¬ (false = true) by decide)] at H; exact H
    clear H; have H := H1; clear H1; have H' := Aside0.mk H; clear H; obtain ⟨aR, aS, aT, aU, aV, aW, aX, aY⟩ := cz4 ab
    go_wp2
    go_loopg [22] kj1 (fun kq cD w' => ∃ (aa : Int), cD = .int .i64 aa ∧ Aside0 (impl_AutoOk.l0 kq l0_3 (l0_3.length : Int) aa a0_0 a0_1 a0_2 l0_3 = some r) ∧ Aside0 (kq ≤ kj1) ∧ Aside0 (w'.heap[ah]? = some (.cells #[.int .i64 a0_0, .int .i64 a0_1, .int .i64 a0_2, (.slice A0_3 l0_3.length c0_3)] 28 (0, 0))) ∧ Aside0 (Below w.heap.size w w'))
    case atStart => exact ⟨(0), vv, H', ⟨Nat.le_refl _⟩, ⟨zB ab.out⟩, ⟨zS HB.out⟩⟩
    case round =>
     clear H'
     try clear p2
     try clear c3
     try clear c4
     try clear c5
     try clear c8
     try clear aw ax ay az
     try clear aE aF aG aH
     try clear aR aS aT aU
     try clear aA
     try clear aB
     try clear aC
     try clear aD
     try clear aI
     try clear aJ
     try clear aK
     try clear aL
     try clear aV
     try clear aW
     try clear aX
     try clear aY
     try clear p2
     obtain ⟨aa, rfl, HA, HK2, ab, HB⟩ := hrel
     cases gk with
     | zero => exact absurd HA.out (by simp [impl_AutoOk.l0])
     | succ k2 =>
      have H := HA.out; clear HA; simp only [impl_AutoOk.l0] at H
      by_cases aM : aa < (l0_3.length : Int)
      ·rw [if_pos aM] at H; have bd : decide (aa < (l0_3.length : Int)) = true := decide_eq_true aM; clear aM
       by_cases aZ : 0 ≤ aa
       ·rw [if_pos aZ] at H; have cu : decide (0 ≤ aa) = true := decide_eq_true aZ; clear aZ
        by_cases ba : aa < (l0_3.length : Int)
        ·rw [if_pos ba] at H; have cv : decide (aa < (l0_3.length : Int)) = true := decide_eq_true ba; clear ba; have HC13 := Aside0.mk H; clear H; have aQ : 0 ≤ (aa : Int) := oD; have q275 : aa < (l0_3.length : Int) := oD; obtain ⟨ad275, e275, ao, ap, aq, ar⟩ := at_T48 HR0_3.out aa aQ q275
         cases e275
         replace ao := ct_ HB ao; replace ap := ct_ HB ap; replace aq := ct_ HB aq; replace ar := ct_ HB ar; replace aQ := eq_true aQ; replace q275 := eq_true q275
         go_upto_region 6 with (first | ((with_reducible refine gate_dst (N := 4) rfl ?_); (try (refine gate_guard (by rfl) ?_; dsimp only)); refine bx_ 4 #[.int .i64 0, .int .i64 0, .int .i64 0, .bool false] 48 ?_; intro ai hg cV hbox hb; have ac := Aside0.mk (hbox); have cI := xG HB hg; have cJ := xG HB hg; replace HB := xS HB hb; have cz := xN ab hg; have ak := xM ab hg; replace ab := xB ab hb; clear hb hbox hg; obtain ⟨cK, cL⟩ := nn ak; obtain ⟨bh, bi, bj, bk, bl, bm, bn, bo⟩ := cz4 ac))
         (try simp only [Act.put, q3])
         go_cut [51] (fun cE wc => ∃ (kq : Nat) (an : Bool), cE = .bool an ∧ Aside0 (impl_AutoOk.j2 kq aa l0_3 (l0_3.length : Int) aa an a0_0 a0_1 a0_2 l0_3 ((rd_T48 l0_3 aa).f0) ((rd_T48 l0_3 aa).f1) ((rd_T48 l0_3 aa).f2) ((rd_T48 l0_3 aa).f3) = some r) ∧ Aside0 (kq ≤ k2) ∧ Aside0 (wc.heap[ah]? = some (.cells #[.int .i64 a0_0, .int .i64 a0_1, .int .i64 a0_2, (.slice (some ad275) l0_3.length c0_3)] 28 (0, 0))) ∧ Aside0 (wc.heap[ai]? = some (.cells #[.int .i64 ((rd_T48 l0_3 aa).f0), .int .i64 ((rd_T48 l0_3 aa).f1), .int .i64 ((rd_T48 l0_3 aa).f2), .bool ((rd_T48 l0_3 aa).f3)] 48 (0, 0))) ∧ Aside0 (Below w.heap.size w wc))
         case first =>
          have H := HC13.out; clear HC13; replace H := bI H; obtain ⟨cn, co, H⟩ := H; replace H : (if cn = true then ((impl_inRange.f ((rd_T48 l0_3 aa).f2) 0 (wrap64 (a0_1 - 1))).bind fun au => (if au = true then ((impl_inRange.f ((rd_T48 l0_3 aa).f1) 0 (wrap64 (a0_0 - 1))).bind fun aj => (impl_AutoOk.j2 k2 aa l0_3 (l0_3.length : Int) aa (!aj) a0_0 a0_1 a0_2 l0_3 ((rd_T48 l0_3 aa).f0) ((rd_T48 l0_3 aa).f1) ((rd_T48 l0_3 aa).f2) ((rd_T48 l0_3 aa).f3))) else (impl_AutoOk.j2 k2 aa l0_3 (l0_3.length : Int) aa true a0_0 a0_1 a0_2 l0_3 ((rd_T48 l0_3 aa).f0) ((rd_T48 l0_3 aa).f1) ((rd_T48 l0_3 aa).f2) ((rd_T48 l0_3 aa).f3)))) else (impl_AutoOk.j2 k2 aa l0_3 (l0_3.length : Int) aa true a0_0 a0_1 a0_2 l0_3 ((rd_T48 l0_3 aa).f0) ((rd_T48 l0_3 aa).f1) ((rd_T48 l0_3 aa).f2) ((rd_T48 l0_3 aa).f3))) = some r := H; have cp := Aside0.mk co; clear co
          by_cases bb : cn = true
          ·subst bb
           have H1 : ((impl_inRange.f ((rd_T48 l0_3 aa).f2) 0 (wrap64 (a0_1 - 1))).bind fun au => (if au = true then ((impl_inRange.f ((rd_T48 l0_3 aa).f1) 0 (wrap64 (a0_0 - 1))).bind fun aj => (impl_AutoOk.j2 k2 aa l0_3 (l0_3.length : Int) aa (!aj) a0_0 a0_1 a0_2 l0_3 ((rd_T48 l0_3 aa).f0) ((rd_T48 l0_3 aa).f1) ((rd_T48 l0_3 aa).f2) ((rd_T48 l0_3 aa).f3))) else (impl_AutoOk.j2 k2 aa l0_3 (l0_3.length : Int) aa true a0_0 a0_1 a0_2 l0_3 ((rd_T48 l0_3 aa).f0) ((rd_T48 l0_3 aa).f1) ((rd_T48 l0_3 aa).f2) ((rd_T48 l0_3 aa).f3)))) = some r := by rw [if_pos rfl] at H; exact H
           clear H; have H := H1; clear H1; replace H := bI H; obtain ⟨au, cq, H⟩ := H; replace H : (if au = true then ((impl_inRange.f ((rd_T48 l0_3 aa).f1) 0 (wrap64 (a0_0 - 1))).bind fun aj => (impl_AutoOk.j2 k2 aa l0_3 (l0_3.length : Int) aa (!aj) a0_0 a0_1 a0_2 l0_3 ((rd_T48 l0_3 aa).f0) ((rd_T48 l0_3 aa).f1) ((rd_T48 l0_3 aa).f2) ((rd_T48 l0_3 aa).f3))) else (impl_AutoOk.j2 k2 aa l0_3 (l0_3.length : Int) aa true a0_0 a0_1 a0_2 l0_3 ((rd_T48 l0_3 aa).f0) ((rd_T48 l0_3 aa).f1) ((rd_T48 l0_3 aa).f2) ((rd_T48 l0_3 aa).f3))) = some r := H; have cA := Aside0.mk cq; clear cq
           by_cases bc : au = true
           ·subst bc
            have H1 : ((impl_inRange.f ((rd_T48 l0_3 aa).f1) 0 (wrap64 (a0_0 - 1))).bind fun aj => (impl_AutoOk.j2 k2 aa l0_3 (l0_3.length : Int) aa (!aj) a0_0 a0_1 a0_2 l0_3 ((rd_T48 l0_3 aa).f0) ((rd_T48 l0_3 aa).f1) ((rd_T48 l0_3 aa).f2) ((rd_T48 l0_3 aa).f3))) = some r := by rw [if_pos rfl] at H; exact H
            clear H; have H := H1; clear H1; replace H := bI H; obtain ⟨aj, cr, H⟩ := H; replace H : (impl_AutoOk.j2 k2 aa l0_3 (l0_3.length : Int) aa (!aj) a0_0 a0_1 a0_2 l0_3 ((rd_T48 l0_3 aa).f0) ((rd_T48 l0_3 aa).f1) ((rd_T48 l0_3 aa).f2) ((rd_T48 l0_3 aa).f3)) = some r := H; have cF := Aside0.mk cr; clear cr; have H' := Aside0.mk H; clear H; obtain ⟨cM, cN⟩ := nn ak; obtain ⟨bp, bq, br, bs, bt, bu, bv, bw⟩ := cz4 ac; obtain ⟨bx, bz, bA, bB, bC, bD, bE, bF⟩ := cz4 ab
            go_wp2_with (first | ((with_reducible refine gate_callee (f := 38) rfl ?_); refine gl_ (some 32) Try.func38 #[.int .i64 ((rd_T48 l0_3 aa).f0), .int .i64 0, .int .i64 (wrap64 (a0_1 - 1))] ?_; (with_reducible refine (impl_inRange.calls ((rd_T48 l0_3 aa).f0) 0 (wrap64 (a0_1 - 1)) true _ cp.out).mono ?_); rintro e w' ⟨rfl, ⟨nd, rfl⟩⟩; refine ⟨_, rfl, ?_⟩) | (go_at_call 38; (with_reducible refine (impl_inRange.calls ((rd_T48 l0_3 aa).f2) 0 (wrap64 (a0_1 - 1)) true _ cA.out).mono ?_); rintro e w' ⟨rfl, ⟨nd, rfl⟩⟩) | (go_at_call 38; (with_reducible refine (impl_inRange.calls ((rd_T48 l0_3 aa).f1) 0 (wrap64 (a0_0 - 1)) aj _ cF.out).mono ?_); rintro e w' ⟨rfl, ⟨nd, rfl⟩⟩))
            go_meet
            case rel => exact ⟨_, (!aj), vv, H', ⟨by have := HJ1.out; have := HK2.out; first | omega | exact Nat.le_refl _⟩, ⟨zB ab.out⟩, ⟨by (with_reducible repeat (first | refine blk_drewN ?_ _ | refine blk_drew ?_ | refine blk_alloc ?_ _)); refine blk_put (cs := #[.int .i64 ((rd_T48 l0_3 aa).f0), .int .i64 ((rd_T48 l0_3 aa).f1), .int .i64 ((rd_T48 l0_3 aa).f2), .bool false]) ?_ 3 _ rfl; (with_reducible repeat (first | refine blk_drewN ?_ _ | refine blk_drew ?_ | refine blk_alloc ?_ _)); refine blk_put (cs := #[.int .i64 ((rd_T48 l0_3 aa).f0), .int .i64 ((rd_T48 l0_3 aa).f1), .int .i64 0, .bool false]) ?_ 2 _ rfl; (with_reducible repeat (first | refine blk_drewN ?_ _ | refine blk_drew ?_ | refine blk_alloc ?_ _)); refine blk_put (cs := #[.int .i64 ((rd_T48 l0_3 aa).f0), .int .i64 0, .int .i64 0, .bool false]) ?_ 1 _ rfl; (with_reducible repeat (first | refine blk_drewN ?_ _ | refine blk_drew ?_ | refine blk_alloc ?_ _)); refine blk_put (cs := #[.int .i64 0, .int .i64 0, .int .i64 0, .bool false]) ?_ 0 _ rfl; (with_reducible repeat (first | refine blk_drewN ?_ _ | refine blk_drew ?_ | refine blk_alloc ?_ _)); exact ac.out⟩, ⟨zS HB.out⟩⟩
           ·replace bc := Bool.eq_false_iff.mpr bc; subst bc
            have H1 : (impl_AutoOk.j2 k2 aa l0_3 (l0_3.length : Int) aa true a0_0 a0_1 a0_2 l0_3 ((rd_T48 l0_3 aa).f0) ((rd_T48 l0_3 aa).f1) ((rd_T48 l0_3 aa).f2) ((rd_T48 l0_3 aa).f3)) = some r := by rw [if_neg (show ¬ (false = true) by decide)] at H; exact H
            clear H; have H := H1; clear H1; have H' := Aside0.mk H; clear H; obtain ⟨cO, cP⟩ := nn ak; obtain ⟨bG, bH, bJ, bK, bL, bM, bN, bO⟩ := cz4 ac; obtain ⟨bP, bQ, bR, bS, bT, bU, bV, bW⟩ := cz4 ab
            go_wp2_with (first | ((with_reducible refine gate_callee (f := 38) rfl ?_); refine gl_ (some 32) Try.func38 #[.int .i64 ((rd_T48 l0_3 aa).f0), .int .i64 0, .int .i64 (wrap64 (a0_1 - 1))] ?_; (with_reducible refine (impl_inRange.calls ((rd_T48 l0_3 aa).f0) 0 (wrap64 (a0_1 - 1)) true _ cp.out).mono ?_); rintro e w' ⟨rfl, ⟨nd, rfl⟩⟩; refine ⟨_, rfl, ?_⟩) | (go_at_call 38; (with_reducible refine (impl_inRange.calls ((rd_T48 l0_3 aa).f2) 0 (wrap64 (a0_1 - 1)) false _ cA.out).mono ?_); rintro e w' ⟨rfl, ⟨nd, rfl⟩⟩))
            go_meet
            case rel => exact ⟨_, (true), vv, H', ⟨by have := HJ1.out; have := HK2.out; first | omega | exact Nat.le_refl _⟩, ⟨zB ab.out⟩, ⟨by (with_reducible repeat (first | refine blk_drewN ?_ _ | refine blk_drew ?_ | refine blk_alloc ?_ _)); refine blk_put (cs := #[.int .i64 ((rd_T48 l0_3 aa).f0), .int .i64 ((rd_T48 l0_3 aa).f1), .int .i64 ((rd_T48 l0_3 aa).f2), .bool false]) ?_ 3 _ rfl; (with_reducible repeat (first | refine blk_drewN ?_ _ | refine blk_drew ?_ | refine blk_alloc ?_ _)); refine blk_put (cs := #[.int .i64 ((rd_T48 l0_3 aa).f0), .int .i64 ((rd_T48 l0_3 aa).f1), .int .i64 0, .bool false]) ?_ 2 _ rfl; (with_reducible repeat (first | refine blk_drewN ?_ _ | refine blk_drew ?_ | refine blk_alloc ?_ _)); refine blk_put (cs := #[.int .i64 ((rd_T48 l0_3 aa).f0), .int .i64 0, .int .i64 0, .bool false]) ?_ 1 _ rfl; (with_reducible repeat (first | refine blk_drewN ?_ _ | refine blk_drew ?_ | refine blk_alloc ?_ _)); refine blk_put (cs := #[.int .i64 0, .int .i64 0, .int .i64 0, .bool false]) ?_ 0 _ rfl; (with_reducible repeat (first | refine blk_drewN ?_ _ | refine blk_drew ?_ | refine blk_alloc ?_ _)); exact ac.out⟩, ⟨zS HB.out⟩⟩
          ·replace bb := Bool.eq_false_iff.mpr bb; subst bb
           have H1 : (impl_AutoOk.j2 k2 aa l0_3 (l0_3.length : Int) aa true a0_0 a0_1 a0_2 l0_3 ((rd_T48 l0_3 aa).f0) ((rd_T48 l0_3 aa).f1) ((rd_T48 l0_3 aa).f2) ((rd_T48 l0_3 aa).f3)) = some r := by rw [if_neg (show ¬ (false = true) by decide)] at H; exact H
           clear H; have H := H1; clear H1; have H' := Aside0.mk H; clear H; obtain ⟨cQ, cR⟩ := nn ak; obtain ⟨bX, bY, bZ, ca, cb, cc, cd, ce⟩ := cz4 ac; obtain ⟨cf, cg, ch, ci, cj, ck, cl, cm⟩ := cz4 ab
           go_wp2_with (first | ((with_reducible refine gate_callee (f := 38) rfl ?_); refine gl_ (some 32) Try.func38 #[.int .i64 ((rd_T48 l0_3 aa).f0), .int .i64 0, .int .i64 (wrap64 (a0_1 - 1))] ?_; (with_reducible refine (impl_inRange.calls ((rd_T48 l0_3 aa).f0) 0 (wrap64 (a0_1 - 1)) false _ cp.out).mono ?_); rintro e w' ⟨rfl, ⟨nd, rfl⟩⟩; refine ⟨_, rfl, ?_⟩))
           go_meet
           case rel => exact ⟨_, (true), vv, H', ⟨by have := HJ1.out; have := HK2.out; first | omega | exact Nat.le_refl _⟩, ⟨zB ab.out⟩, ⟨by (with_reducible repeat (first | refine blk_drewN ?_ _ | refine blk_drew ?_ | refine blk_alloc ?_ _)); refine blk_put (cs := #[.int .i64 ((rd_T48 l0_3 aa).f0), .int .i64 ((rd_T48 l0_3 aa).f1), .int .i64 ((rd_T48 l0_3 aa).f2), .bool false]) ?_ 3 _ rfl; (with_reducible repeat (first | refine blk_drewN ?_ _ | refine blk_drew ?_ | refine blk_alloc ?_ _)); refine blk_put (cs := #[.int .i64 ((rd_T48 l0_3 aa).f0), .int .i64 ((rd_T48 l0_3 aa).f1), .int .i64 0, .bool false]) ?_ 2 _ rfl; (with_reducible repeat (first | refine blk_drewN ?_ _ | refine blk_drew ?_ | refine blk_alloc ?_ _)); refine blk_put (cs := #[.int .i64 ((rd_T48 l0_3 aa).f0), .int .i64 0, .int .i64 0, .bool false]) ?_ 1 _ rfl; (with_reducible repeat (first | refine blk_drewN ?_ _ | refine blk_drew ?_ | refine blk_alloc ?_ _)); refine blk_put (cs := #[.int .i64 0, .int .i64 0, .int .i64 0, .bool false]) ?_ 0 _ rfl; (with_reducible repeat (first | refine blk_drewN ?_ _ | refine blk_drew ?_ | refine blk_alloc ?_ _)); exact ac.out⟩, ⟨zS HB.out⟩⟩
         case rest =>
          clear HC13
          try clear c1
          try clear c2
          try clear p2
          try clear q2
          try clear hx2
          try clear c3
          try clear c4
          try clear c5
          try clear p6
          try clear c8
          try clear aM
          try clear bd
          try clear aZ
          try clear cu
          try clear ba
          try clear cv
          try clear cW
          try clear bb
          try clear bc
          try clear cX
          try clear cY
          try clear cZ
          try clear q27
          try clear hx27
          try clear da
          try clear bh bi bj bk
          try clear bp bq br bs
          try clear bx bz bA bB
          try clear bG bH bJ bK
          try clear bP bQ bR bS
          try clear bX bY bZ ca
          try clear cf cg ch ci
          try clear aw ax ay az
          try clear aE aF aG aH
          try clear aR aS aT aU
          try clear bl
          try clear bm
          try clear bn
          try clear bo
          try clear bt
          try clear bu
          try clear bv
          try clear bw
          try clear bC
          try clear bD
          try clear bE
          try clear bF
          try clear bL
          try clear bM
          try clear bN
          try clear bO
          try clear bT
          try clear bU
          try clear bV
          try clear bW
          try clear cb
          try clear cc
          try clear cd
          try clear ce
          try clear cj
          try clear ck
          try clear cl
          try clear cm
          try clear aA
          try clear aB
          try clear aC
          try clear aD
          try clear aI
          try clear aJ
          try clear aK
          try clear aL
          try clear aV
          try clear aW
          try clear aX
          try clear aY
          try clear ao
          try clear ap
          try clear aq
          try clear ar
          try clear p2
          try clear aQ
          try clear q275
          obtain ⟨kq, an, rfl, HA, HJ12, ab, ac, HB⟩ := hcut
          cases kq with
          | zero => exact absurd HA.out (by simp [impl_AutoOk.j2])
          | succ kj12 =>
           have H := HA.out; clear HA; simp only [impl_AutoOk.j2] at H
           by_cases be : an = true
           ·subst be
            have H1 : (some false) = some r := by rw [if_pos rfl] at H; exact H
            clear H; have H := H1; clear H1; obtain rfl := Option.some.inj H
            go_wp2
            go_ret; exact ⟨vw, zS HB.out⟩
           ·replace be := Bool.eq_false_iff.mpr be; subst be
            have H1 : (if aa > 0 then (if 0 ≤ (wrap64 (aa - 1)) then (if (wrap64 (aa - 1)) < (l0_3.length : Int) then ((impl_compareEdges.f kj12 ((rd_T48 l0_3 (wrap64 (aa - 1))).f0) ((rd_T48 l0_3 (wrap64 (aa - 1))).f1) ((rd_T48 l0_3 (wrap64 (aa - 1))).f2) ((rd_T48 l0_3 (wrap64 (aa - 1))).f3) ((rd_T48 l0_3 aa).f0) ((rd_T48 l0_3 aa).f1) ((rd_T48 l0_3 aa).f2) ((rd_T48 l0_3 aa).f3)).bind fun al => (if al ≥ 0 then (some false) else (impl_AutoOk.l0 kj12 l0_3 (l0_3.length : Int) (wrap64 (aa + 1)) a0_0 a0_1 a0_2 l0_3))) else (none)) else (none)) else (impl_AutoOk.l0 kj12 l0_3 (l0_3.length : Int) (wrap64 (aa + 1)) a0_0 a0_1 a0_2 l0_3)) = some r := by rw [if_neg (show ¬ (false = true) by decide)] at H; exact H
            clear H; have H := H1; clear H1
            by_cases aN : aa > 0
            ·rw [if_pos aN] at H; have cw : decide (0 < aa) = true := decide_eq_true aN; clear aN; obtain ⟨ji33, hji33⟩ : ∃ j_ : Int, (wrap64 (aa - 1)) = j_ := ⟨_, rfl⟩
             replace H : (if 0 ≤ (ji33) then (if (ji33) < (l0_3.length : Int) then ((impl_compareEdges.f kj12 ((rd_T48 l0_3 (ji33)).f0) ((rd_T48 l0_3 (ji33)).f1) ((rd_T48 l0_3 (ji33)).f2) ((rd_T48 l0_3 (ji33)).f3) ((rd_T48 l0_3 aa).f0) ((rd_T48 l0_3 aa).f1) ((rd_T48 l0_3 aa).f2) ((rd_T48 l0_3 aa).f3)).bind fun al => (if al ≥ 0 then (some false) else (impl_AutoOk.l0 kj12 l0_3 (l0_3.length : Int) (wrap64 (aa + 1)) a0_0 a0_1 a0_2 l0_3))) else (none)) else (none)) = some r := by first | (rw [hji33] at H; exact H) | (simp only [hji33] at H ⊢; exact H)
             have hji33w : (IntKind.i64.wrap (aa - 1)) = ji33 := (i64_w _).trans hji33
             by_cases bf : 0 ≤ (ji33)
             ·rw [if_pos bf] at H; have cS : decide (0 ≤ (ji33)) = true := decide_eq_true bf; clear bf
              by_cases bg : (ji33) < (l0_3.length : Int)
              ·rw [if_pos bg] at H; have cU : decide ((ji33) < (l0_3.length : Int)) = true := decide_eq_true bg; clear bg; replace H := bI H; obtain ⟨al, ct, H⟩ := H; replace H : (if al ≥ 0 then (some false) else (impl_AutoOk.l0 kj12 l0_3 (l0_3.length : Int) (wrap64 (aa + 1)) a0_0 a0_1 a0_2 l0_3)) = some r := H; have cB := Aside0.mk ct; clear ct
               by_cases aO : al ≥ 0
               ·rw [if_pos aO] at H; have cx : decide (0 ≤ al) = true := decide_eq_true aO; clear aO; obtain rfl := Option.some.inj H
                try go_wp2
                replace ab := Aside0.mk (blk_drew ab.out); replace ac := Aside0.mk (blk_drew ac.out); replace HB := Aside0.mk (below_drew1 HB.out); have am : 0 ≤ ((ji33) : Int) := oD; have q280 : (ji33) < (l0_3.length : Int) := oD; obtain ⟨ad280, e280, ad, ae, af, ag⟩ := at_T48 HR0_3.out (ji33) am q280; have hw280_3 := ag; have hw280_2 := af; have hw280_1 := ae; have hw280_0 := ad; obtain rfl : ad275 = ad280 := (by injection e280); replace ad := ct_ HB ad; replace ae := ct_ HB ae; replace af := ct_ HB af; replace ag := ct_ HB ag; replace am := eq_true am; replace q280 := eq_true q280; refine start_ (n := 13) (S := fun w' => w'.cell? ⟨ah, 0, none⟩ = some (.int .i64 a0_0) ∧ w'.cell? ⟨ah, 1, none⟩ = some (.int .i64 a0_1) ∧ w'.cell? ⟨ah, 2, none⟩ = some (.int .i64 a0_2) ∧ w'.cell? ⟨ah, 3, none⟩ = some (.slice (some ad275) l0_3.length c0_3) ∧ w'.cell? ⟨ai, 0, none⟩ = some (.int .i64 ((rd_T48 l0_3 aa).f0)) ∧ w'.cell? ⟨ai, 1, none⟩ = some (.int .i64 ((rd_T48 l0_3 aa).f1)) ∧ w'.cell? ⟨ai, 2, none⟩ = some (.int .i64 ((rd_T48 l0_3 aa).f2)) ∧ w'.cell? ⟨ai, 3, none⟩ = some (.bool ((rd_T48 l0_3 aa).f3)) ∧ w'.cell? (ad275.add (((ji33)).toNat * 4)) = some (.int .i64 ((rd_T48 l0_3 (ji33)).f0)) ∧ w'.cell? ⟨(ad275.add (((ji33)).toNat * 4)).block, (ad275.add (((ji33)).toNat * 4)).off + 1, none⟩ = some (.int .i64 ((rd_T48 l0_3 (ji33)).f1)) ∧ w'.cell? ⟨(ad275.add (((ji33)).toNat * 4)).block, (ad275.add (((ji33)).toNat * 4)).off + 2, none⟩ = some (.int .i64 ((rd_T48 l0_3 (ji33)).f2)) ∧ w'.cell? ⟨(ad275.add (((ji33)).toNat * 4)).block, (ad275.add (((ji33)).toNat * 4)).off + 3, none⟩ = some (.bool ((rd_T48 l0_3 (ji33)).f3))) (ds := []) bl0 (by kernel_rfl) rfl rfl ⟨b1 ab 0, b1 ab 1, b1 ab 2, b1 ab 3, b1 ac 0, b1 ac 1, b1 ac 2, b1 ac 3, (ct_ HB hw280_0), (ct_ HB hw280_1), (ct_ HB hw280_2), (ct_ HB hw280_3)⟩ (fun hHeld => ?_); refine with_tabW impl_AutoOk.tab8 impl_AutoOk.bits8 (fun HT_ HW_ => ?_); generalize wc.drew = db at ab ac HB ad ae af ag hHeld ⊢
                refine pv_ 0 (some 52) bl1 HT_ ?_
                refine pv_ 1 (some 53) bl2 HT_ ?_
                refine pv_ 2 (some 54) bl3 HT_ ?_
                refine pv_ 3 (some 55) bl4 HT_ ?_
                refine pv_ 5 (some 57) bl5 HT_ ?_
                refine pv_ 6 (some 58) bl6 HT_ ?_
                refine tk_ 4 (some 56) bl7 HT_ HW_ hHeld ?_
                refine pv_ 7 (some 59) bl8 HT_ ?_
                refine tk_ 8 (some 60) bl9 HT_ HW_ hHeld ?_
                refine tk_ 9 (some 61) bl10 HT_ HW_ hHeld ?_
                refine on_ 10 (some 62) bl11 HT_ (fun K hK => ?_); refine goes_ Try.func44 (by kernel_rfl) rfl #[.agg #[.int .i64 ((rd_T48 l0_3 (ji33)).f0), .int .i64 ((rd_T48 l0_3 (ji33)).f1), .int .i64 ((rd_T48 l0_3 (ji33)).f2), .bool ((rd_T48 l0_3 (ji33)).f3)], .agg #[.int .i64 ((rd_T48 l0_3 aa).f0), .int .i64 ((rd_T48 l0_3 aa).f1), .int .i64 ((rd_T48 l0_3 aa).f2), .bool ((rd_T48 l0_3 aa).f3)]] (by rfl) rfl rfl (by (try simp only [m3]); first | done | (simp only [hji33]; rfl) | rfl | (simp only [d2]; rfl)) ?_
                with_reducible refine (impl_compareEdges.calls kj12 ((rd_T48 l0_3 (ji33)).f0) ((rd_T48 l0_3 (ji33)).f1) ((rd_T48 l0_3 (ji33)).f2) ((rd_T48 l0_3 (ji33)).f3) ((rd_T48 l0_3 aa).f0) ((rd_T48 l0_3 aa).f1) ((rd_T48 l0_3 aa).f2) ((rd_T48 l0_3 aa).f3) al _ cB.out).mono ?_
                rintro e dc ⟨rfl, hb⟩; refine ⟨_, rfl, ?_⟩; replace ab := xB ab hb; replace ac := xB ac hb; replace HB := xS HB hb
                (try clear hb)
                (try clear hb2)
                (try clear hk)
                (try clear hi)
                refine hK.out _ _ ⟨b1 ab 0, b1 ab 1, b1 ab 2, b1 ab 3, b1 ac 0, b1 ac 1, b1 ac 2, b1 ac 3, (ct_ HB hw280_0), (ct_ HB hw280_1), (ct_ HB hw280_2), (ct_ HB hw280_3)⟩ (fun hHeld => ?_); clear hK K; refine nr_ (some 62) ?_
                refine pv_ 11 (some 63) bl12 HT_ ?_
                refine pv_ 12 (some 64) bl13 HT_ ?_
                refine done_ (done_of HT_.out (by kernel_rfl)) ?_
                try go_wp2
                go_ret; exact ⟨by first | rfl | (simp [errW_none, errW_some] <;> rfl) | (simp only [← hji33]; first | rfl | (simp [errW_none, errW_some] <;> rfl)) | (simp [*, errW_none, errW_some] <;> rfl), zS HB.out⟩
               ·rw [if_neg aO] at H; have cx : decide (0 ≤ al) = false := decide_eq_false aO; clear aO; have H' := Aside0.mk H; clear H
                try go_wp2
                replace ab := Aside0.mk (blk_drew ab.out); replace ac := Aside0.mk (blk_drew ac.out); replace HB := Aside0.mk (below_drew1 HB.out); have am : 0 ≤ ((ji33) : Int) := oD; have q280 : (ji33) < (l0_3.length : Int) := oD; obtain ⟨ad280, e280, ad, ae, af, ag⟩ := at_T48 HR0_3.out (ji33) am q280; have hw280_3 := ag; have hw280_2 := af; have hw280_1 := ae; have hw280_0 := ad; obtain rfl : ad275 = ad280 := (by injection e280); replace ad := ct_ HB ad; replace ae := ct_ HB ae; replace af := ct_ HB af; replace ag := ct_ HB ag; replace am := eq_true am; replace q280 := eq_true q280; refine start_ (n := 13) (S := fun w' => w'.cell? ⟨ah, 0, none⟩ = some (.int .i64 a0_0) ∧ w'.cell? ⟨ah, 1, none⟩ = some (.int .i64 a0_1) ∧ w'.cell? ⟨ah, 2, none⟩ = some (.int .i64 a0_2) ∧ w'.cell? ⟨ah, 3, none⟩ = some (.slice (some ad275) l0_3.length c0_3) ∧ w'.cell? ⟨ai, 0, none⟩ = some (.int .i64 ((rd_T48 l0_3 aa).f0)) ∧ w'.cell? ⟨ai, 1, none⟩ = some (.int .i64 ((rd_T48 l0_3 aa).f1)) ∧ w'.cell? ⟨ai, 2, none⟩ = some (.int .i64 ((rd_T48 l0_3 aa).f2)) ∧ w'.cell? ⟨ai, 3, none⟩ = some (.bool ((rd_T48 l0_3 aa).f3)) ∧ w'.cell? (ad275.add (((ji33)).toNat * 4)) = some (.int .i64 ((rd_T48 l0_3 (ji33)).f0)) ∧ w'.cell? ⟨(ad275.add (((ji33)).toNat * 4)).block, (ad275.add (((ji33)).toNat * 4)).off + 1, none⟩ = some (.int .i64 ((rd_T48 l0_3 (ji33)).f1)) ∧ w'.cell? ⟨(ad275.add (((ji33)).toNat * 4)).block, (ad275.add (((ji33)).toNat * 4)).off + 2, none⟩ = some (.int .i64 ((rd_T48 l0_3 (ji33)).f2)) ∧ w'.cell? ⟨(ad275.add (((ji33)).toNat * 4)).block, (ad275.add (((ji33)).toNat * 4)).off + 3, none⟩ = some (.bool ((rd_T48 l0_3 (ji33)).f3))) (ds := []) bl0 (by kernel_rfl) rfl rfl ⟨b1 ab 0, b1 ab 1, b1 ab 2, b1 ab 3, b1 ac 0, b1 ac 1, b1 ac 2, b1 ac 3, (ct_ HB hw280_0), (ct_ HB hw280_1), (ct_ HB hw280_2), (ct_ HB hw280_3)⟩ (fun hHeld => ?_); refine with_tabW impl_AutoOk.tab8 impl_AutoOk.bits8 (fun HT_ HW_ => ?_); generalize wc.drew = dd at ab ac HB ad ae af ag hHeld ⊢
                refine pv_ 0 (some 52) bl1 HT_ ?_
                refine pv_ 1 (some 53) bl2 HT_ ?_
                refine pv_ 2 (some 54) bl3 HT_ ?_
                refine pv_ 3 (some 55) bl4 HT_ ?_
                refine pv_ 5 (some 57) bl5 HT_ ?_
                refine pv_ 6 (some 58) bl6 HT_ ?_
                refine tk_ 4 (some 56) bl7 HT_ HW_ hHeld ?_
                refine pv_ 7 (some 59) bl8 HT_ ?_
                refine tk_ 8 (some 60) bl9 HT_ HW_ hHeld ?_
                refine tk_ 9 (some 61) bl10 HT_ HW_ hHeld ?_
                refine on_ 10 (some 62) bl11 HT_ (fun K hK => ?_); refine goes_ Try.func44 (by kernel_rfl) rfl #[.agg #[.int .i64 ((rd_T48 l0_3 (ji33)).f0), .int .i64 ((rd_T48 l0_3 (ji33)).f1), .int .i64 ((rd_T48 l0_3 (ji33)).f2), .bool ((rd_T48 l0_3 (ji33)).f3)], .agg #[.int .i64 ((rd_T48 l0_3 aa).f0), .int .i64 ((rd_T48 l0_3 aa).f1), .int .i64 ((rd_T48 l0_3 aa).f2), .bool ((rd_T48 l0_3 aa).f3)]] (by rfl) rfl rfl (by (try simp only [m3]); first | done | (simp only [hji33]; rfl) | rfl | (simp only [d2]; rfl)) ?_
                with_reducible refine (impl_compareEdges.calls kj12 ((rd_T48 l0_3 (ji33)).f0) ((rd_T48 l0_3 (ji33)).f1) ((rd_T48 l0_3 (ji33)).f2) ((rd_T48 l0_3 (ji33)).f3) ((rd_T48 l0_3 aa).f0) ((rd_T48 l0_3 aa).f1) ((rd_T48 l0_3 aa).f2) ((rd_T48 l0_3 aa).f3) al _ cB.out).mono ?_
                rintro e de ⟨rfl, hb⟩; refine ⟨_, rfl, ?_⟩; replace ab := xB ab hb; replace ac := xB ac hb; replace HB := xS HB hb
                (try clear hb)
                (try clear hb2)
                (try clear hk)
                (try clear hi)
                refine hK.out _ _ ⟨b1 ab 0, b1 ab 1, b1 ab 2, b1 ab 3, b1 ac 0, b1 ac 1, b1 ac 2, b1 ac 3, (ct_ HB hw280_0), (ct_ HB hw280_1), (ct_ HB hw280_2), (ct_ HB hw280_3)⟩ (fun hHeld => ?_); clear hK K; refine nr_ (some 62) ?_
                refine pv_ 11 (some 63) bl12 HT_ ?_
                refine pv_ 12 (some 64) bl13 HT_ ?_
                refine done_ (done_of HT_.out (by kernel_rfl)) ?_
                try go_wp2
                (first | go_roundg kj12 | ((try simp only [← hji33]); go_roundg kj12))
                case measure => have := HJ1.out; have := HK2.out; have := HJ12.out; omega
                case rel => exact ⟨(wrap64 (aa + 1)), vv, (by first | exact H' | (have h_ := H'; (try simp only [← hji33] at h_); (try simp only [← hji33]); exact h_)), ⟨by have := HJ1.out; have := HK2.out; have := HJ12.out; omega⟩, ⟨zB ab.out⟩, ⟨zS HB.out⟩⟩
              ·rw [if_neg bg] at H; exact absurd H (by simp)
             ·rw [if_neg bf] at H; exact absurd H (by simp)
            ·rw [if_neg aN] at H; have cw : decide (0 < aa) = false := decide_eq_false aN; clear aN; have H' := Aside0.mk H; clear H
             try go_wp2
             replace ab := Aside0.mk (blk_drew ab.out); replace ac := Aside0.mk (blk_drew ac.out); replace HB := Aside0.mk (below_drew1 HB.out); refine start_ (n := 13) (S := fun w' => True) (ds := []) bl0 (by kernel_rfl) rfl rfl trivial (fun hHeld => ?_); refine with_tabW impl_AutoOk.tab8 impl_AutoOk.bits8 (fun HT_ HW_ => ?_); generalize wc.drew = df at ab ac HB hHeld ⊢
             refine pv_ 0 (some 52) bl1 HT_ ?_
             refine pv_ 1 (some 53) bl2 HT_ ?_
             refine pv_ 2 (some 54) bl3 HT_ ?_
             refine pn_ 3 (some 55) bl4 HT_ ?_
             refine pn_ 4 (some 56) bl14 HT_ ?_
             refine pn_ 5 (some 57) bl15 HT_ ?_
             refine pn_ 6 (some 58) bl7 HT_ ?_
             refine pn_ 7 (some 59) bl8 HT_ ?_
             refine pn_ 8 (some 60) bl9 HT_ ?_
             refine pn_ 9 (some 61) bl10 HT_ ?_
             refine pn_ 10 (some 62) bl11 HT_ ?_
             refine pn_ 11 (some 63) bl12 HT_ ?_
             refine pv_ 12 (some 64) bl13 HT_ ?_
             refine done_ (done_of HT_.out (by kernel_rfl)) ?_
             try go_wp2
             go_roundg kj12
             case measure => have := HJ1.out; have := HK2.out; have := HJ12.out; omega
             case rel => exact ⟨(wrap64 (aa + 1)), vv, H', ⟨by have := HJ1.out; have := HK2.out; have := HJ12.out; omega⟩, ⟨zB ab.out⟩, ⟨zS HB.out⟩⟩
        ·rw [if_neg ba] at H; exact absurd H (by simp)
       ·rw [if_neg aZ] at H; exact absurd H (by simp)
      ·rw [if_neg aM] at H; have bd : decide (aa < (l0_3.length : Int)) = false := decide_eq_false aM; clear aM; obtain rfl := Option.some.inj H
       go_wp2
       go_ret; exact ⟨vw, zS HB.out⟩


/-! ### impl_rightAuto: function 25 -/
def impl_rightAuto.f (k : Nat) (a0_0 : Int) (a0_1 : Int) (a0_2 : Int) (l0_3 : List (S48)) : Option (Int × Int × Int × (List (S48)) × Bool) := (impl_AutoOk.f k a0_0 a0_1 a0_2 l0_3).bind fun t284 => (if t284 = true then (some (a0_0, a0_1, a0_2, l0_3, true)) else (some (0, 0, 0, ([] : List (S48)), false)))
theorem impl_rightAuto.mono : ∀ a0 a1 a2 a3 k, LeO (impl_rightAuto.f k a0 a1 a2 a3) (impl_rightAuto.f (k + 1) a0 a1 a2 a3) := by
 intro a0 a1 a2 a3 k
 unfold impl_rightAuto.f
 repeat' first
   | (with_reducible exact impl_AutoOk.mono _ _ _ _ _)
   | (with_reducible exact LeO.refl _)
   | (with_reducible exact LeO.none _)
   | (with_reducible refine LeO.ite ?_ ?_)
   | (with_reducible refine LeO.bind ?_ (fun _ => ?_))
   | exact impl_AutoOk.mono _ _ _ _ _
   | exact LeO.none _
   | refine LeO.ite ?_ ?_
   | refine LeO.bind ?_ (fun _ => ?_)
open Go.Proofs.Ytnflbjdmbaaokaa.Short2 in
set_option maxHeartbeats 8000000 in
set_option maxRecDepth 100000 in
theorem impl_rightAuto.calls (k : Nat) (a0_0 : Int) (a0_1 : Int) (a0_2 : Int) (P0_3_ : Nat → Prop) (u9000_ : Value) (l0_3 : List (S48)) (r1 : Int) (r2 : Int) (r3 : Int) (r4 : List (S48)) (r5 : Bool) (w0 w : World) (hB : Below w0.heap.size w0 w) (ho0_3 : Kd.R k48 48 w w0.heap.size P0_3_ u9000_ l0_3) (h : impl_rightAuto.f k a0_0 a0_1 a0_2 l0_3 = some (r1, r2, r3, r4, r5)) :
  Calls Try.prog 25 #[.agg #[.int .i64 a0_0, .int .i64 a0_1, .int .i64 a0_2, u9000_]] w fun e w' => ∃ v3_ : Value, e = .returned (.tuple #[.agg #[.int .i64 r1, .int .i64 r2, .int .i64 r3, v3_], .bool r5]) ∧ Kd.R k48 48 w' w0.heap.size (fun k_ => (P0_3_ k_ ∨ w.heap.size ≤ k_)) v3_ r4 ∧ Below w0.heap.size w0 w' ∧ Kept w w' (fun k_ => P0_3_ k_) := by
 have hu28 := Try.underlying28; have HO0_3 := Aside0.mk (show Kd.R k48 48 w w0.heap.size (fun k_ => (P0_3_ k_ ∨ w.heap.size ≤ k_)) u9000_ l0_3 from Kd.R_mono ho0_3 (fun k_ hk => (.inl hk))); have HK := Aside0.mk (Kept.refl w (fun k_ => P0_3_ k_)); have HW0 := Aside0.mk hB.size; have HB := Aside0.mk hB; clear hB; have H : ((impl_AutoOk.f k a0_0 a0_1 a0_2 l0_3).bind fun an => (if an = true then (some (a0_0, a0_1, a0_2, l0_3, true)) else (some (0, 0, 0, ([] : List (S48)), false)))) = some (r1, r2, r3, r4, r5) := h; clear h; replace H := bI H; obtain ⟨an, aA, H⟩ := H; replace H : (if an = true then (some (a0_0, a0_1, a0_2, l0_3, true)) else (some (0, 0, 0, ([] : List (S48)), false))) = some (r1, r2, r3, r4, r5) := H; have A2 := Aside0.mk aA; clear aA
 by_cases c3 : an = true
 ·subst c3
  have H1 : (some (a0_0, a0_1, a0_2, l0_3, true)) = some (r1, r2, r3, r4, r5) := by rw [if_pos rfl] at H; exact H
  clear H; have H := H1; clear H1; simp only [Option.some.injEq, Prod.mk.injEq] at H; obtain ⟨rfl, rfl, rfl, rfl, rfl⟩ := H; obtain ⟨aw, ax, bi⟩ := Kd.R_slice HO0_3.out; subst bi
  go_enter Try.func25, Try.ntmps25
  go_wp2_with (first | ((with_reducible refine gate_dst (N := 1) rfl ?_); refine bx_ 1 #[.int .i64 a0_0, .int .i64 a0_1, .int .i64 a0_2, .slice aw l0_3.length ax] 28 ?_; intro al hg w5 hbox hb; have ac := xR HO0_3 hb; have ad := Aside0.mk (Kept.below (S := (fun k_ => P0_3_ k_)) (by repeat (first | (with_reducible first | exact HK.out | apply Kept.alloc | apply Kept.drewN | apply Kept.drew) | exact HK.out)) hb); have ae := xS HB hb; have af := Aside0.mk (hbox); have ag := Aside0.mk ((by rw [hg]; exact (by first | exact HK.out.1 | exact (show Kept w _ (fun k_ => P0_3_ k_) from by repeat (first | (with_reducible first | exact HK.out | apply Kept.alloc | apply Kept.drewN | apply Kept.drew) | exact HK.out)).1) : w.heap.size ≤ al)); have aj := Aside0.mk ((by rw [hg]; exact (below_size (zS HB.out)) : w0.heap.size ≤ al)); clear HO0_3; clear HK; clear HB; have HO0_3 := ac; have HK := ad; have HB := ae; have aa := af; have ah := ag; have ao := aj; clear ac ad ae af ag aj; clear hb hbox hg) | ((with_reducible refine gate_dst (N := 2) rfl ?_); refine bx_ 2 #[.int .i64 0, .int .i64 0, .int .i64 0, .slice none 0 0] 28 ?_; intro ai hg w6 hbox hb; have ac := xR HO0_3 hb; have ad := xB aa hb; have ae := Aside0.mk (Kept.below (S := (fun k_ => P0_3_ k_)) (by repeat (first | (with_reducible first | exact HK.out | apply Kept.alloc | apply Kept.drewN | apply Kept.drew | refine Kept.setCell ?_ (.inr ah.out) _) | exact HK.out)) hb); have af := xS HB hb; have ag := Aside0.mk (hbox); have aj := Aside0.mk ((by rw [hg]; exact (by first | exact HK.out.1 | exact (show Kept w _ (fun k_ => P0_3_ k_) from by repeat (first | (with_reducible first | exact HK.out | apply Kept.alloc | apply Kept.drewN | apply Kept.drew | refine Kept.setCell ?_ (.inr ah.out) _) | exact HK.out)).1) : w.heap.size ≤ ai)); have aq := Aside0.mk ((by rw [hg]; exact (below_size (zS HB.out)) : w0.heap.size ≤ ai)); have ar := xN aa hg; have au := xM aa hg; clear HO0_3; clear aa; clear HK; clear HB; have HO0_3 := ac; have aa := ad; have HK := ae; have HB := af; have ab := ag; have am := aj; have ap := aq; have ak := ar; have av := au; clear ac ad ae af ag aj aq ar au; clear hb hbox hg; obtain ⟨bt, bu⟩ := nn ak; obtain ⟨bj, bk, bl, bm, bn, bo, bp, bq⟩ := cz4 aa) | ((with_reducible refine gate_callee (f := 45) rfl ?_); refine gl_ (some 5) Try.func45 #[.agg #[.int .i64 a0_0, .int .i64 a0_1, .int .i64 a0_2, .slice aw l0_3.length ax]] ?_; (with_reducible refine (impl_AutoOk.calls k a0_0 a0_1 a0_2 _ _ l0_3 true _ ?side1 ?side2 A2.out).mono ?_); (case side1 => exact sC HO0_3); (case side2 => exact sL HO0_3); rintro e w9 ⟨rfl, hb⟩; refine ⟨_, rfl, ?_⟩; have ac := xR HO0_3 hb; have ad := xB aa hb; have ae := xB ab hb; have af := Aside0.mk (Kept.below (S := (fun k_ => P0_3_ k_)) (by repeat (first | (with_reducible first | exact HK.out | apply Kept.alloc | apply Kept.drewN | apply Kept.drew | refine Kept.setCell ?_ (.inr ah.out) _ | refine Kept.setCell ?_ (.inr am.out) _) | exact HK.out)) hb); have ag := xS HB hb; clear HO0_3; clear aa; clear ab; clear HK; clear HB; have HO0_3 := ac; have aa := ad; have ab := ae; have HK := af; have HB := ag; clear ac ad ae af ag; (try clear hb); (try clear hb2); (try clear hk); (try clear hi); obtain ⟨aC, aD, aE, aF, aG, aH, aI, aJ⟩ := cz4 aa; obtain ⟨aK, aL, aM, aN, aO, aP, aQ, aR⟩ := cz4 ab))
  refine bodyPost_ret (results_ct rfl _ _ ai 28 #[.int .i64 a0_0, .int .i64 a0_1, .int .i64 a0_2, .slice aw l0_3.length ax] (0, 0) _ rfl (xP4 ab.out) Try.underlying28 rfl (by kernel_rfl)) rfl ?_; exact ⟨_, vw, rM (Aside0.mk (yF4 HO0_3 ab)) (fun _ hk => hk.1), by repeat (first | (with_reducible first | exact HB.out | apply below_alloc | apply pw_below_drewN | apply below_drew1 | refine below_set ?_ ao.out | refine below_set ?_ ap.out) | exact HB.out), by repeat (first | (with_reducible first | exact HK.out | apply Kept.alloc | apply Kept.drewN | apply Kept.drew | refine Kept.setCell ?_ (.inr ah.out) _ | refine Kept.setCell ?_ (.inr am.out) _) | exact HK.out)⟩
 ·replace c3 := Bool.eq_false_iff.mpr c3; subst c3
  have H1 : (some (0, 0, 0, ([] : List (S48)), false)) = some (r1, r2, r3, r4, r5) := by rw [if_neg (show ¬ (false = true) by decide)] at H; exact H
  clear H; have H := H1; clear H1; simp only [Option.some.injEq, Prod.mk.injEq] at H; obtain ⟨rfl, rfl, rfl, rfl, rfl⟩ := H; obtain ⟨ay, az, aB⟩ := Kd.R_slice HO0_3.out; subst aB
  go_enter Try.func25, Try.ntmps25
  go_wp2_with (first | ((with_reducible refine gate_dst (N := 1) rfl ?_); refine bx_ 1 #[.int .i64 a0_0, .int .i64 a0_1, .int .i64 a0_2, .slice ay l0_3.length az] 28 ?_; intro al hg bv hbox hb; have ac := xR HO0_3 hb; have ad := Aside0.mk (Kept.below (S := (fun k_ => P0_3_ k_)) (by repeat (first | (with_reducible first | exact HK.out | apply Kept.alloc | apply Kept.drewN | apply Kept.drew) | exact HK.out)) hb); have ae := xS HB hb; have af := Aside0.mk (hbox); have ag := Aside0.mk ((by rw [hg]; exact (by first | exact HK.out.1 | exact (show Kept w _ (fun k_ => P0_3_ k_) from by repeat (first | (with_reducible first | exact HK.out | apply Kept.alloc | apply Kept.drewN | apply Kept.drew) | exact HK.out)).1) : w.heap.size ≤ al)); have aj := Aside0.mk ((by rw [hg]; exact (below_size (zS HB.out)) : w0.heap.size ≤ al)); clear HO0_3; clear HK; clear HB; have HO0_3 := ac; have HK := ad; have HB := ae; have aa := af; have ah := ag; have ao := aj; clear ac ad ae af ag aj; clear hb hbox hg) | ((with_reducible refine gate_dst (N := 2) rfl ?_); refine bx_ 2 #[.int .i64 0, .int .i64 0, .int .i64 0, .slice none 0 0] 28 ?_; intro ai hg bw hbox hb; have ac := xR HO0_3 hb; have ad := xB aa hb; have ae := Aside0.mk (Kept.below (S := (fun k_ => P0_3_ k_)) (by repeat (first | (with_reducible first | exact HK.out | apply Kept.alloc | apply Kept.drewN | apply Kept.drew | refine Kept.setCell ?_ (.inr ah.out) _) | exact HK.out)) hb); have af := xS HB hb; have ag := Aside0.mk (hbox); have aj := Aside0.mk ((by rw [hg]; exact (by first | exact HK.out.1 | exact (show Kept w _ (fun k_ => P0_3_ k_) from by repeat (first | (with_reducible first | exact HK.out | apply Kept.alloc | apply Kept.drewN | apply Kept.drew | refine Kept.setCell ?_ (.inr ah.out) _) | exact HK.out)).1) : w.heap.size ≤ ai)); have aq := Aside0.mk ((by rw [hg]; exact (below_size (zS HB.out)) : w0.heap.size ≤ ai)); have ar := xN aa hg; have au := xM aa hg; clear HO0_3; clear aa; clear HK; clear HB; have HO0_3 := ac; have aa := ad; have HK := ae; have HB := af; have ab := ag; have am := aj; have ap := aq; have ak := ar; have av := au; clear ac ad ae af ag aj aq ar au; clear hb hbox hg; obtain ⟨br, bs⟩ := nn ak; obtain ⟨aS, aT, aU, aV, aW, aX, aY, aZ⟩ := cz4 aa) | ((with_reducible refine gate_callee (f := 45) rfl ?_); refine gl_ (some 5) Try.func45 #[.agg #[.int .i64 a0_0, .int .i64 a0_1, .int .i64 a0_2, .slice ay l0_3.length az]] ?_; (with_reducible refine (impl_AutoOk.calls k a0_0 a0_1 a0_2 _ _ l0_3 false _ ?side1 ?side2 A2.out).mono ?_); (case side1 => exact sC HO0_3); (case side2 => exact sL HO0_3); rintro e bx ⟨rfl, hb⟩; refine ⟨_, rfl, ?_⟩; have ac := xR HO0_3 hb; have ad := xB aa hb; have ae := xB ab hb; have af := Aside0.mk (Kept.below (S := (fun k_ => P0_3_ k_)) (by repeat (first | (with_reducible first | exact HK.out | apply Kept.alloc | apply Kept.drewN | apply Kept.drew | refine Kept.setCell ?_ (.inr ah.out) _ | refine Kept.setCell ?_ (.inr am.out) _) | exact HK.out)) hb); have ag := xS HB hb; clear HO0_3; clear aa; clear ab; clear HK; clear HB; have HO0_3 := ac; have aa := ad; have ab := ae; have HK := af; have HB := ag; clear ac ad ae af ag; (try clear hb); (try clear hb2); (try clear hk); (try clear hi); obtain ⟨ba, bb, bc, bd, be, bf, bg, bh⟩ := cz4 ab))
  refine bodyPost_ret (results_ct rfl _ _ ai 28 #[.int .i64 0, .int .i64 0, .int .i64 0, .slice none 0 0] (0, 0) _ rfl (xP4 ab.out) Try.underlying28 rfl (by kernel_rfl)) rfl ?_; exact ⟨_, vw, by first | exact Kd.R_nil _ _ _ _ _ | exact Kd.N_nil _ _ _ _ _ | exact Kd.V_nil _ _ _ _ _ | exact Kd.Q_nil _ _ _ _ _ | exact Kd.S_nil _ _ _ _ _, by repeat (first | (with_reducible first | exact HB.out | apply below_alloc | apply pw_below_drewN | apply below_drew1 | refine below_set ?_ ao.out | refine below_set ?_ ap.out) | exact HB.out), by repeat (first | (with_reducible first | exact HK.out | apply Kept.alloc | apply Kept.drewN | apply Kept.drew | refine Kept.setCell ?_ (.inr ah.out) _ | refine Kept.setCell ?_ (.inr am.out) _) | exact HK.out)⟩

end Go.Proofs.Ytnflbjdmbaaokaa.MFnExactGenDegen
