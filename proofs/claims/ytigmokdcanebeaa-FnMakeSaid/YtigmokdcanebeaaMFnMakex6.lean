-- Written by a program of this session, out of Lean's print of the translation. Not trusted: Lean checks it.
import Derived.Test.YtigmokdcanebeaaMFnMakex0
import Derived.Test.YtigmokdcanebeaaMFnMakex2
namespace Go.Proofs.Ytigmokdcanebeaa.MFnMake
open Go.RowKit Go.Proofs.YtigmokdcanebeaaW.PrintWords Go.Proofs.YtigmokdcanebeaaW.PrintLast Go.Proofs.YtigmokdcanebeaaW.PrintMore
attribute [local go_sem] max2_int min2_int max_two min_two max_three min_three max_four min_four   -- for this text's walks alone
set_option linter.unusedVariables false
set_option linter.unusedSimpArgs false


/-! ### impl_AutoEdge: function 10 -/
def impl_AutoEdge.l0 : Nat → Int → Int → Int → List (S33) → Int → Int → Option (Bool × Bool)
 | 0, _, _, _, _, _, _ => none
 | k + 1, x1, x2, x3, x16, x17, x18 => if x18 < x17 then (if 0 ≤ x18 then (if x18 < (x16.length : Int) then (if ((rd_T33 x16 x18).f0) = x1 then (if ((rd_T33 x16 x18).f1) = x2 then (if ((rd_T33 x16 x18).f2) = x3 then (some ((rd_T33 x16 x18).f3, true)) else (impl_AutoEdge.l0 k x1 x2 x3 x16 x17 (wrap64 (x18 + 1)))) else (impl_AutoEdge.l0 k x1 x2 x3 x16 x17 (wrap64 (x18 + 1)))) else (impl_AutoEdge.l0 k x1 x2 x3 x16 x17 (wrap64 (x18 + 1)))) else (none)) else (none)) else (some (false, false))
def impl_AutoEdge.f (k : Nat) (a0_0 : Int) (a0_1 : Int) (a0_2 : Int) (l0_3 : List (S33)) (a1 : Int) (a2 : Int) (a3 : Int) : Option (Bool × Bool) := (impl_AutoOk.f k a0_0 a0_1 a0_2 l0_3).bind fun t310 => (if t310 = true then (impl_AutoEdge.l0 k a1 a2 a3 l0_3 (l0_3.length : Int) 0) else (some (false, false)))
theorem impl_AutoEdge.mono_l : ∀ k, (∀ y0 y1 y2 y3 y4 y5, LeO (impl_AutoEdge.l0 k y0 y1 y2 y3 y4 y5) (impl_AutoEdge.l0 (k + 1) y0 y1 y2 y3 y4 y5))
 | 0 => fun _ _ _ _ _ _ r h => by simp [impl_AutoEdge.l0] at h
 | k + 1 => by
  have ih0 := impl_AutoEdge.mono_l k
  ·intro y0 y1 y2 y3 y4 y5
   unfold impl_AutoEdge.l0
   repeat' first
   | (with_reducible exact ih0 _ _ _ _ _ _)
   | (with_reducible exact impl_AutoOk.mono _ _ _ _ _)
   | (with_reducible exact LeO.refl _)
   | (with_reducible exact LeO.none _)
   | (with_reducible refine LeO.ite ?_ ?_)
   | (with_reducible refine LeO.bind ?_ (fun _ => ?_))
   | exact ih0 _ _ _ _ _ _
   | exact impl_AutoOk.mono _ _ _ _ _
   | exact LeO.none _
   | refine LeO.ite ?_ ?_
   | refine LeO.bind ?_ (fun _ => ?_)
theorem impl_AutoEdge.mono : ∀ a0 a1 a2 a3 a4 a5 a6 k, LeO (impl_AutoEdge.f k a0 a1 a2 a3 a4 a5 a6) (impl_AutoEdge.f (k + 1) a0 a1 a2 a3 a4 a5 a6) := by
 intro a0 a1 a2 a3 a4 a5 a6 k
 have ih0 := impl_AutoEdge.mono_l k
 unfold impl_AutoEdge.f
 repeat' first
   | (with_reducible exact ih0 _ _ _ _ _ _)
   | (with_reducible exact impl_AutoOk.mono _ _ _ _ _)
   | (with_reducible exact LeO.refl _)
   | (with_reducible exact LeO.none _)
   | (with_reducible refine LeO.ite ?_ ?_)
   | (with_reducible refine LeO.bind ?_ (fun _ => ?_))
   | exact ih0 _ _ _ _ _ _
   | exact impl_AutoOk.mono _ _ _ _ _
   | exact LeO.none _
   | refine LeO.ite ?_ ?_
   | refine LeO.bind ?_ (fun _ => ?_)
open Go.Proofs.Ytigmokdcanebeaa.Short2 Go.Proofs.Ytigmokdcanebeaa.Short6 in
set_option maxHeartbeats 8000000 in
set_option maxRecDepth 100000 in
theorem impl_AutoEdge.calls (k : Nat) (a0_0 : Int) (a0_1 : Int) (a0_2 : Int) (A0_3 : Option Addr) (c0_3 : Nat) (l0_3 : List (S33)) (a1 : Int) (a2 : Int) (a3 : Int) (r1 : Bool) (r2 : Bool) (w : World) (hr0_3 : Kd.C k33 w A0_3 l0_3.length l0_3) (hc0_3 : l0_3.length ≤ c0_3) (h : impl_AutoEdge.f k a0_0 a0_1 a0_2 l0_3 a1 a2 a3 = some (r1, r2)) :
  Calls Try.prog 10 #[.agg #[.int .i64 a0_0, .int .i64 a0_1, .int .i64 a0_2, .slice A0_3 l0_3.length c0_3], .int .i64 a1, .int .i64 a2, .int .i64 a3] w fun e w' => e = .returned (.tuple #[.bool r1, .bool r2]) ∧ Below w.heap.size w w' := by
 have hu28 := Try.underlying28; have hu33 := Try.underlying33; have HR0_3 := Aside0.mk hr0_3; have HC0_3 := Aside0.mk hc0_3; clear hr0_3 hc0_3; have HB := Aside0.mk (Below.refl w.heap.size w); have H : ((impl_AutoOk.f k a0_0 a0_1 a0_2 l0_3).bind fun aq => (if aq = true then (impl_AutoEdge.l0 k a1 a2 a3 l0_3 (l0_3.length : Int) 0) else (some (false, false)))) = some (r1, r2) := h; clear h; replace H := Option.bind_eq_some_iff.mp H; obtain ⟨aq, aW, H⟩ := H; replace H : (if aq = true then (impl_AutoEdge.l0 k a1 a2 a3 l0_3 (l0_3.length : Int) 0) else (some (false, false))) = some (r1, r2) := H; have A5 := Aside0.mk aW; clear aW
 by_cases c6 : aq = true
 ·subst c6
  have H1 : (impl_AutoEdge.l0 k a1 a2 a3 l0_3 (l0_3.length : Int) 0) = some (r1, r2) := by rw [if_pos rfl] at H; exact H
  clear H; have H := H1; clear H1; have H' := Aside0.mk H; clear H
  go_enter Try.func10, Try.ntmps10
  go_wp2_with (first | ((with_reducible refine gate_dst (N := 4) rfl ?_); refine box_event ?hg (N := 4) ?hd (cs := #[.int .i64 a0_0, .int .i64 a0_1, .int .i64 a0_2, .slice A0_3 l0_3.length c0_3]) (t := 28) ?hr ?_; (case hd => rfl); (case hg => rfl); (case hr => first | (go_simp; done) | (go_simp; rfl)); intro av hg w7 hbox hb; have ab := Aside0.mk (hbox); have aO := xG HB hg; have ak := xG HB hg; replace HB := xS HB hb; clear hb hbox hg; obtain ⟨aG, aH, aI, aJ, aK, aL, aM, aN⟩ := cz4 ab) | ((with_reducible refine gate_callee (f := 9) rfl ?_); refine gl_ (some 13) Try.func9 #[.agg #[.int .i64 a0_0, .int .i64 a0_1, .int .i64 a0_2, .slice A0_3 l0_3.length c0_3]] ?_; (with_reducible refine (impl_AutoOk.calls k a0_0 a0_1 a0_2 _ _ l0_3 true _ ?side1 ?side2 A5.out).mono ?_); (case side1 => exact zC (Kd.C_below HR0_3.out HB.out)); (case side2 => exact HC0_3.out); rintro e w9 ⟨rfl, hb⟩; refine ⟨_, rfl, ?_⟩; replace ab := xB ab hb; replace HB := xS HB hb; (try clear hb); (try clear hb2); (try clear hk); (try clear hi); obtain ⟨ay, az, aA, aB, aC, aD, aE, aF⟩ := cz4 ab))
  go_loopg [18] k (fun kq bM w' => ∃ (aa : Int), bM = .int .i64 aa ∧ Aside0 (impl_AutoEdge.l0 kq a1 a2 a3 l0_3 (l0_3.length : Int) aa = some (r1, r2)) ∧ Aside0 (kq ≤ k) ∧ Aside0 (w'.heap[av]? = some (.cells #[.int .i64 a0_0, .int .i64 a0_1, .int .i64 a0_2, (.slice A0_3 l0_3.length c0_3)] 28 (0, 0))) ∧ Aside0 (Below w.heap.size w w'))
  case atStart => exact ⟨(0), (by first | rfl | (simp; done) | (simp [*]; done) | (rw [Int.tmod_eq_emod_of_nonneg (Int.natCast_nonneg _)]; done)), H', ⟨Nat.le_refl _⟩, ⟨zB ab.out⟩, ⟨zS HB.out⟩⟩
  case round =>
   clear H'
   try clear c1
   try clear p2
   try clear c6
   try clear c9
   try clear bX
   try clear ay az aA aB
   try clear aG aH aI aJ
   try clear aC
   try clear aD
   try clear aE
   try clear aF
   try clear aK
   try clear aL
   try clear aM
   try clear aN
   obtain ⟨aa, rfl, HA, HK1, ab, HB⟩ := hrel
   cases gk with
   | zero => exact absurd HA.out (by simp [impl_AutoEdge.l0])
   | succ k1 =>
    have H := HA.out; clear HA; simp only [impl_AutoEdge.l0] at H
    by_cases ap : aa < (l0_3.length : Int)
    ·rw [if_pos ap] at H; have aP : decide (aa < (l0_3.length : Int)) = true := decide_eq_true ap; clear ap
     by_cases aw : 0 ≤ aa
     ·rw [if_pos aw] at H; have bN : decide (0 ≤ aa) = true := decide_eq_true aw; clear aw
      by_cases ax : aa < (l0_3.length : Int)
      ·rw [if_pos ax] at H; have bO : decide (aa < (l0_3.length : Int)) = true := decide_eq_true ax; clear ax
       by_cases am : ((rd_T33 l0_3 aa).f0) = a1
       ·rw [if_pos am] at H; have aQ : (((rd_T33 l0_3 aa).f0) == a1) = true := beq_iff_eq.mpr am; have aR : (((rd_T33 l0_3 aa).f0) != a1) = false := bne_eq_false_iff_eq.mpr am; clear am
        by_cases an : ((rd_T33 l0_3 aa).f1) = a2
        ·rw [if_pos an] at H; have aS : (((rd_T33 l0_3 aa).f1) == a2) = true := beq_iff_eq.mpr an; have aT : (((rd_T33 l0_3 aa).f1) != a2) = false := bne_eq_false_iff_eq.mpr an; clear an
         by_cases ao : ((rd_T33 l0_3 aa).f2) = a3
         ·rw [if_pos ao] at H; have aU : (((rd_T33 l0_3 aa).f2) == a3) = true := beq_iff_eq.mpr ao; have aV : (((rd_T33 l0_3 aa).f2) != a3) = false := bne_eq_false_iff_eq.mpr ao; clear ao; simp only [Option.some.injEq, Prod.mk.injEq] at H; obtain ⟨rfl, rfl⟩ := H; have ai : 0 ≤ (aa : Int) := of_decide_eq_true (by first | (with_reducible assumption) | assumption); have q311 : aa < (l0_3.length : Int) := of_decide_eq_true (by first | (with_reducible assumption) | assumption); obtain ⟨ad311, e311, ac, ad, ae, af⟩ := at_T33 HR0_3.out aa ai q311
          cases e311
          replace ac := (HB.out.cell (World.block_lt_of_cell? w _ ac)).trans ac; replace ad := (HB.out.cell (World.block_lt_of_cell? w _ ad)).trans ad; replace ae := (HB.out.cell (World.block_lt_of_cell? w _ ae)).trans ae; replace af := (HB.out.cell (World.block_lt_of_cell? w _ af)).trans af; replace ai := eq_true ai; replace q311 := eq_true q311
          go_wp2_with (first | ((with_reducible refine gate_dst (N := 11) rfl ?_); refine box_event ?hg (N := 11) ?hd (cs := #[.int .i64 0, .int .i64 0, .int .i64 0, .bool false]) (t := 33) ?hr ?_; (case hd => rfl); (case hg => rfl); (case hr => first | (go_simp; done) | (go_simp; rfl)); intro ar hg bY hbox hb; have aj := Aside0.mk (hbox); have au := xG HB hg; have al := xG HB hg; replace HB := xS HB hb; have ag := xN ab hg; have ah := xM ab hg; replace ab := xB ab hb; clear hb hbox hg; have bP := ah.out; have bQ := ag.out; obtain ⟨aX, aY, aZ, ba, bb, bc, bd, be⟩ := cz4 aj))
          go_ret2; exact ⟨by first | rfl | (simp [errW_none, errW_some] <;> rfl) | (simp [*, errW_none, errW_some] <;> rfl), by repeat (first | (with_reducible first | exact HB.out | apply below_alloc | apply pw_below_drewN | apply below_drew1 | refine below_set ?_ ak.out | refine below_set ?_ al.out) | exact HB.out)⟩
         ·rw [if_neg ao] at H; have aU : (((rd_T33 l0_3 aa).f2) == a3) = false := beq_eq_false_iff_ne.mpr ao; have aV : (((rd_T33 l0_3 aa).f2) != a3) = true := bne_iff_ne.mpr ao; have H' := Aside0.mk H; clear H; have ai : 0 ≤ (aa : Int) := of_decide_eq_true (by first | (with_reducible assumption) | assumption); have q311 : aa < (l0_3.length : Int) := of_decide_eq_true (by first | (with_reducible assumption) | assumption); obtain ⟨ad311, e311, ac, ad, ae, af⟩ := at_T33 HR0_3.out aa ai q311
          cases e311
          replace ac := (HB.out.cell (World.block_lt_of_cell? w _ ac)).trans ac; replace ad := (HB.out.cell (World.block_lt_of_cell? w _ ad)).trans ad; replace ae := (HB.out.cell (World.block_lt_of_cell? w _ ae)).trans ae; replace af := (HB.out.cell (World.block_lt_of_cell? w _ af)).trans af; replace ai := eq_true ai; replace q311 := eq_true q311
          go_wp2_with (first | ((with_reducible refine gate_dst (N := 11) rfl ?_); refine box_event ?hg (N := 11) ?hd (cs := #[.int .i64 0, .int .i64 0, .int .i64 0, .bool false]) (t := 33) ?hr ?_; (case hd => rfl); (case hg => rfl); (case hr => first | (go_simp; done) | (go_simp; rfl)); intro ar hg bZ hbox hb; have aj := Aside0.mk (hbox); have au := xG HB hg; have al := xG HB hg; replace HB := xS HB hb; have ag := xN ab hg; have ah := xM ab hg; replace ab := xB ab hb; clear hb hbox hg; have bR := ah.out; have bS := ag.out; obtain ⟨bf, bg, bh, bi, bj, bk, bl, bm⟩ := cz4 aj))
          go_roundg k1
          case measure => have := HK1.out; omega
          case rel => exact ⟨(wrap64 (aa + 1)), (by first | rfl | (simp; done) | (simp [*]; done) | (rw [Int.tmod_eq_emod_of_nonneg (Int.natCast_nonneg _)]; done)), H', ⟨by have := HK1.out; omega⟩, ⟨zB ab.out⟩, ⟨zS HB.out⟩⟩
        ·rw [if_neg an] at H; have aS : (((rd_T33 l0_3 aa).f1) == a2) = false := beq_eq_false_iff_ne.mpr an; have aT : (((rd_T33 l0_3 aa).f1) != a2) = true := bne_iff_ne.mpr an; have H' := Aside0.mk H; clear H; have ai : 0 ≤ (aa : Int) := of_decide_eq_true (by first | (with_reducible assumption) | assumption); have q311 : aa < (l0_3.length : Int) := of_decide_eq_true (by first | (with_reducible assumption) | assumption); obtain ⟨ad311, e311, ac, ad, ae, af⟩ := at_T33 HR0_3.out aa ai q311
         cases e311
         replace ac := (HB.out.cell (World.block_lt_of_cell? w _ ac)).trans ac; replace ad := (HB.out.cell (World.block_lt_of_cell? w _ ad)).trans ad; replace ae := (HB.out.cell (World.block_lt_of_cell? w _ ae)).trans ae; replace af := (HB.out.cell (World.block_lt_of_cell? w _ af)).trans af; replace ai := eq_true ai; replace q311 := eq_true q311
         go_wp2_with (first | ((with_reducible refine gate_dst (N := 11) rfl ?_); refine box_event ?hg (N := 11) ?hd (cs := #[.int .i64 0, .int .i64 0, .int .i64 0, .bool false]) (t := 33) ?hr ?_; (case hd => rfl); (case hg => rfl); (case hr => first | (go_simp; done) | (go_simp; rfl)); intro ar hg ca hbox hb; have aj := Aside0.mk (hbox); have au := xG HB hg; have al := xG HB hg; replace HB := xS HB hb; have ag := xN ab hg; have ah := xM ab hg; replace ab := xB ab hb; clear hb hbox hg; have bT := ah.out; have bU := ag.out; obtain ⟨bn, bo, bp, bq, br, bs, bt, bu⟩ := cz4 aj))
         go_roundg k1
         case measure => have := HK1.out; omega
         case rel => exact ⟨(wrap64 (aa + 1)), (by first | rfl | (simp; done) | (simp [*]; done) | (rw [Int.tmod_eq_emod_of_nonneg (Int.natCast_nonneg _)]; done)), H', ⟨by have := HK1.out; omega⟩, ⟨zB ab.out⟩, ⟨zS HB.out⟩⟩
       ·rw [if_neg am] at H; have aQ : (((rd_T33 l0_3 aa).f0) == a1) = false := beq_eq_false_iff_ne.mpr am; have aR : (((rd_T33 l0_3 aa).f0) != a1) = true := bne_iff_ne.mpr am; have H' := Aside0.mk H; clear H; have ai : 0 ≤ (aa : Int) := of_decide_eq_true (by first | (with_reducible assumption) | assumption); have q311 : aa < (l0_3.length : Int) := of_decide_eq_true (by first | (with_reducible assumption) | assumption); obtain ⟨ad311, e311, ac, ad, ae, af⟩ := at_T33 HR0_3.out aa ai q311
        cases e311
        replace ac := (HB.out.cell (World.block_lt_of_cell? w _ ac)).trans ac; replace ad := (HB.out.cell (World.block_lt_of_cell? w _ ad)).trans ad; replace ae := (HB.out.cell (World.block_lt_of_cell? w _ ae)).trans ae; replace af := (HB.out.cell (World.block_lt_of_cell? w _ af)).trans af; replace ai := eq_true ai; replace q311 := eq_true q311
        go_wp2_with (first | ((with_reducible refine gate_dst (N := 11) rfl ?_); refine box_event ?hg (N := 11) ?hd (cs := #[.int .i64 0, .int .i64 0, .int .i64 0, .bool false]) (t := 33) ?hr ?_; (case hd => rfl); (case hg => rfl); (case hr => first | (go_simp; done) | (go_simp; rfl)); intro ar hg cb hbox hb; have aj := Aside0.mk (hbox); have au := xG HB hg; have al := xG HB hg; replace HB := xS HB hb; have ag := xN ab hg; have ah := xM ab hg; replace ab := xB ab hb; clear hb hbox hg; have bV := ah.out; have bW := ag.out; obtain ⟨bv, bw, bx, bz, bA, bB, bC, bD⟩ := cz4 aj))
        go_roundg k1
        case measure => have := HK1.out; omega
        case rel => exact ⟨(wrap64 (aa + 1)), (by first | rfl | (simp; done) | (simp [*]; done) | (rw [Int.tmod_eq_emod_of_nonneg (Int.natCast_nonneg _)]; done)), H', ⟨by have := HK1.out; omega⟩, ⟨zB ab.out⟩, ⟨zS HB.out⟩⟩
      ·rw [if_neg ax] at H; exact absurd H (by simp)
     ·rw [if_neg aw] at H; exact absurd H (by simp)
    ·rw [if_neg ap] at H; have aP : decide (aa < (l0_3.length : Int)) = false := decide_eq_false ap; clear ap; simp only [Option.some.injEq, Prod.mk.injEq] at H; obtain ⟨rfl, rfl⟩ := H
     go_wp2
     go_ret2; exact ⟨by first | rfl | (simp [errW_none, errW_some] <;> rfl) | (simp [*, errW_none, errW_some] <;> rfl), by repeat (first | (with_reducible first | exact HB.out | apply below_alloc | apply pw_below_drewN | apply below_drew1 | refine below_set ?_ ak.out) | exact HB.out)⟩
 ·replace c6 := Bool.eq_false_iff.mpr c6; subst c6
  have H1 : (some (false, false)) = some (r1, r2) := by rw [if_neg (show ¬ (false = true) by decide)] at H; exact H
  clear H; have H := H1; clear H1; simp only [Option.some.injEq, Prod.mk.injEq] at H; obtain ⟨rfl, rfl⟩ := H
  go_enter Try.func10, Try.ntmps10
  go_wp2_with (first | ((with_reducible refine gate_dst (N := 4) rfl ?_); refine box_event ?hg (N := 4) ?hd (cs := #[.int .i64 a0_0, .int .i64 a0_1, .int .i64 a0_2, .slice A0_3 l0_3.length c0_3]) (t := 28) ?hr ?_; (case hd => rfl); (case hg => rfl); (case hr => first | (go_simp; done) | (go_simp; rfl)); intro av hg cc hbox hb; have ab := Aside0.mk (hbox); have aO := xG HB hg; have ak := xG HB hg; replace HB := xS HB hb; clear hb hbox hg; obtain ⟨bE, bF, bG, bH, bI, bJ, bK, bL⟩ := cz4 ab) | ((with_reducible refine gate_callee (f := 9) rfl ?_); refine gl_ (some 13) Try.func9 #[.agg #[.int .i64 a0_0, .int .i64 a0_1, .int .i64 a0_2, .slice A0_3 l0_3.length c0_3]] ?_; (with_reducible refine (impl_AutoOk.calls k a0_0 a0_1 a0_2 _ _ l0_3 false _ ?side1 ?side2 A5.out).mono ?_); (case side1 => exact zC (Kd.C_below HR0_3.out HB.out)); (case side2 => exact HC0_3.out); rintro e cd ⟨rfl, hb⟩; refine ⟨_, rfl, ?_⟩; replace ab := xB ab hb; replace HB := xS HB hb; (try clear hb); (try clear hb2); (try clear hk); (try clear hi)))
  go_ret2; exact ⟨by first | rfl | (simp [errW_none, errW_some] <;> rfl) | (simp [*, errW_none, errW_some] <;> rfl), by repeat (first | (with_reducible first | exact HB.out | apply below_alloc | apply pw_below_drewN | apply below_drew1 | refine below_set ?_ ak.out) | exact HB.out)⟩

end Go.Proofs.Ytigmokdcanebeaa.MFnMake
