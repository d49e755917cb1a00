-- Written by a program of this session, out of Lean's print of the translation. Not trusted: Lean checks it.
import Derived.Test.YthkljpbddddhdaaMFnJoin3x0
import Derived.Test.YthkljpbddddhdaaMFnJoin3x1
namespace Go.Proofs.Ythkljpbddddhdaa.MFnJoin3
open Go.RowKit Go.Proofs.YthkljpbddddhdaaW.PrintWords Go.Proofs.YthkljpbddddhdaaW.PrintLast Go.Proofs.YthkljpbddddhdaaW.PrintMore
attribute [local go_sem] max2_int min2_int max_two min_two max_three min_three max_four min_four   -- for this text's walks alone
set_option linter.unusedVariables false
set_option linter.unusedSimpArgs false

/-! ### spec_l3Right: function 54 -/
def spec_l3Right.f (k : Nat) (l0_0 : List Int) (l0_1 : List Int) : Option (Bool) := (spec_WordOk.f k l0_0 l0_1 8).bind fun t129 => (some t129)
theorem spec_l3Right.mono : ∀ a0 a1 k, LeO (spec_l3Right.f k a0 a1) (spec_l3Right.f (k + 1) a0 a1) := by
  intro a0 a1 k
  unfold spec_l3Right.f
  repeat' first
      | (with_reducible exact spec_WordOk.mono _ _ _ _)
      | (with_reducible exact LeO.refl _)
      | (with_reducible exact LeO.none _)
      | (with_reducible refine LeO.ite ?_ ?_)
      | (with_reducible refine LeO.bind ?_ (fun _ => ?_))
      | exact spec_WordOk.mono _ _ _ _
      | exact LeO.none _
      | refine LeO.ite ?_ ?_
      | refine LeO.bind ?_ (fun _ => ?_)
set_option maxHeartbeats 8000000 in
set_option maxRecDepth 100000 in
theorem spec_l3Right.calls (k : Nat) (A0_0 : Option Addr) (c0_0 : Nat) (l0_0 : List Int) (A0_1 : Option Addr) (c0_1 : Nat) (l0_1 : List Int) (r : Bool) (w : World) (hr0_0 : Kd.C (Kd.int .i64) w A0_0 l0_0.length l0_0) (hc0_0 : l0_0.length ≤ c0_0) (hr0_1 : Kd.C (Kd.int .i64) w A0_1 l0_1.length l0_1) (hc0_1 : l0_1.length ≤ c0_1) (h : spec_l3Right.f k l0_0 l0_1 = some r) :
    Calls Try.prog 54 #[.agg #[.slice A0_0 l0_0.length c0_0, .slice A0_1 l0_1.length c0_1]] w fun e w' => e = .returned (.bool r) ∧ Below w.heap.size w w' := by
  have hu27 := Try.underlying27
  have HR0_0 := Aside0.mk hr0_0
  have HC0_0 := Aside0.mk hc0_0
  clear hr0_0 hc0_0
  have HR0_1 := Aside0.mk hr0_1
  have HC0_1 := Aside0.mk hc0_1
  clear hr0_1 hc0_1
  have HB := Aside0.mk (Below.refl w.heap.size w)
  have H : ((spec_WordOk.f k l0_0 l0_1 8).bind fun ac => (some ac)) = some r := h
  clear h
  replace H := Option.bind_eq_some_iff.mp H
  obtain ⟨ac, ag, H⟩ := H
  replace H : (some ac) = some r := H
  have A2 := Aside0.mk ag
  clear ag
  obtain rfl := Option.some.inj H
  go_enter Try.func54, Try.ntmps54
  go_wp2_with (first | ((with_reducible refine gate_dst (N := 1) rfl ?_); refine box_event ?hg (N := 1) ?hd (cs := #[.slice A0_0 l0_0.length c0_0, .slice A0_1 l0_1.length c0_1]) (t := 27) ?hr ?_; (case hd => rfl); (case hg => rfl); (case hr => first | (go_simp; done) | (go_simp; rfl)); intro ab hg w3 hbox hb; have ad := Aside0.mk (below_step (by repeat (first | (with_reducible first | exact HB.out | apply below_alloc | apply pw_below_drewN | apply below_drew1) | exact HB.out)) hb); have ae := Aside0.mk (hbox); have ah := Aside0.mk ((by rw [hg]; exact (below_size (by repeat (first | (with_reducible first | exact HB.out | apply below_alloc | apply pw_below_drewN | apply below_drew1) | exact HB.out))) : w.heap.size ≤ ab)); have ai := Aside0.mk ((by rw [hg]; exact (below_size (by repeat (first | (with_reducible first | exact HB.out | apply below_alloc | apply pw_below_drewN | apply below_drew1) | exact HB.out))) : w.heap.size ≤ ab)); clear HB; have HB := ad; have aa := ae; have an := ah; have af := ai; clear ad ae ah ai; clear hb hbox hg; have aj : w3.cell? ⟨ab, 0, none⟩ = some (.slice A0_0 l0_0.length c0_0) := (blk_cell aa.out 0).trans rfl; have ak : w3.cell? ⟨ab, 1, none⟩ = some (.slice A0_1 l0_1.length c0_1) := (blk_cell aa.out 1).trans rfl; have al := blk_frozen aa.out 0; have am := blk_frozen aa.out 1) | ((with_reducible refine gate_callee (f := 16) rfl ?_); refine goesL_ (some 4) rfl rfl Try.func16 (by kernel_rfl) rfl #[.agg #[.slice A0_0 l0_0.length c0_0, .slice A0_1 l0_1.length c0_1], .int .i64 8] rfl (by (try simp only [List.map_toArray, List.map_cons, List.map_nil]); first | done | rfl | (simp only [List.length_drop, List.length_take]; rfl)) ?_; (with_reducible refine (spec_WordOk.calls k _ _ l0_0 _ _ l0_1 8 ac _ ?side1 ?side2 ?side3 ?side4 A2.out).mono ?_); (case side1 => repeat (first | exact (Kd.C_below HR0_0.out HB.out) | (with_reducible refine Kd.C_alloc ?_ _) | (with_reducible refine Kd.C_drewN ?_ _) | (with_reducible refine Kd.C_drew ?_))); (case side2 => exact HC0_0.out); (case side3 => repeat (first | exact (Kd.C_below HR0_1.out HB.out) | (with_reducible refine Kd.C_alloc ?_ _) | (with_reducible refine Kd.C_drewN ?_ _) | (with_reducible refine Kd.C_drew ?_))); (case side4 => exact HC0_1.out); rintro e w5 ⟨rfl, hb⟩; refine ⟨_, rfl, ?_⟩; have ad := Aside0.mk (blk_below (g := ab) (o := .cells #[.slice A0_0 l0_0.length c0_0, .slice A0_1 l0_1.length c0_1] 27 (0, 0)) (by (with_reducible repeat (first | refine blk_drewN ?_ _ | refine blk_drew ?_ | refine blk_alloc ?_ _)); exact aa.out) hb); have ae := Aside0.mk (below_step (by repeat (first | (with_reducible first | exact HB.out | apply below_alloc | apply pw_below_drewN | apply below_drew1 | refine below_set ?_ af.out) | exact HB.out)) hb); clear aa; clear HB; have aa := ad; have HB := ae; clear ad ae; (try clear hb); (try clear hb2); (try clear hk); (try clear hi)))
  go_ret
  exact ⟨by first | rfl | (simp [errW_none, errW_some] <;> rfl) | (simp [*, errW_none, errW_some] <;> rfl), by repeat (first | (with_reducible first | exact HB.out | apply below_alloc | apply pw_below_drewN | apply below_drew1 | refine below_set ?_ af.out) | exact HB.out)⟩


/-! ### spec_l3Told: function 59 -/
def spec_l3Told.f (k : Nat) (l0_0 : List Int) (l0_1 : List Int) : Option (List Int × List Int × Bool) := (spec_l3Right.f k l0_0 l0_1).bind fun t132 => (if t132 = true then (some (l0_0, l0_1, true)) else (some (([] : List Int), ([] : List Int), false)))
theorem spec_l3Told.mono : ∀ a0 a1 k, LeO (spec_l3Told.f k a0 a1) (spec_l3Told.f (k + 1) a0 a1) := by
 intro a0 a1 k
 unfold spec_l3Told.f
 repeat' first
   | (with_reducible exact spec_l3Right.mono _ _ _)
   | (with_reducible exact LeO.refl _)
   | (with_reducible exact LeO.none _)
   | (with_reducible refine LeO.ite ?_ ?_)
   | (with_reducible refine LeO.bind ?_ (fun _ => ?_))
   | exact spec_l3Right.mono _ _ _
   | exact LeO.none _
   | refine LeO.ite ?_ ?_
   | refine LeO.bind ?_ (fun _ => ?_)
open Go.Proofs.Ythkljpbddddhdaa.Short2 in
set_option maxHeartbeats 8000000 in
set_option maxRecDepth 100000 in
theorem spec_l3Told.calls (k : Nat) (P0_0_ : Nat → Prop) (u9000_ : Value) (l0_0 : List Int) (P0_1_ : Nat → Prop) (u9001_ : Value) (l0_1 : List Int) (r1 : List Int) (r2 : List Int) (r3 : Bool) (w0 w : World) (hB : Below w0.heap.size w0 w) (ho0_0 : Kd.R (Kd.int .i64) 3 w w0.heap.size P0_0_ u9000_ l0_0) (hp0_0_0_1 : ∀ k_, P0_0_ k_ → ¬ P0_1_ k_) (ho0_1 : Kd.R (Kd.int .i64) 3 w w0.heap.size P0_1_ u9001_ l0_1) (hp0_1_0_0 : ∀ k_, P0_1_ k_ → ¬ P0_0_ k_) (h : spec_l3Told.f k l0_0 l0_1 = some (r1, r2, r3)) :
  Calls Try.prog 59 #[.agg #[u9000_, u9001_]] w fun e w' => ∃ v0_ v1_ : Value, e = .returned (.tuple #[.agg #[v0_, v1_], .bool r3]) ∧ Kd.R (Kd.int .i64) 3 w' w0.heap.size (fun k_ => ((P0_0_ k_ ∨ P0_1_ k_) ∨ w.heap.size ≤ k_) ∧ some k_ ≠ (v1_ : Value).ownBlock) v0_ r1 ∧ Kd.R (Kd.int .i64) 3 w' w0.heap.size (fun k_ => ((P0_0_ k_ ∨ P0_1_ k_) ∨ w.heap.size ≤ k_) ∧ some k_ ≠ (v0_ : Value).ownBlock) v1_ r2 ∧ Below w0.heap.size w0 w' ∧ Kept w w' (fun k_ => P0_0_ k_ ∨ P0_1_ k_) := by
 have hu27 := Try.underlying27; have HO0_0 := Aside0.mk (show Kd.R (Kd.int .i64) 3 w w0.heap.size (fun k_ => ((P0_0_ k_ ∨ P0_1_ k_) ∨ w.heap.size ≤ k_) ∧ some k_ ≠ (u9001_ : Value).ownBlock) u9000_ l0_0 from Kd.R_mono ho0_0 (fun k_ hk => ⟨(.inl (.inl hk)), fun e_ => hp0_0_0_1 k_ hk (ho0_1.1 k_ e_.symm)⟩)); have HO0_1 := Aside0.mk (show Kd.R (Kd.int .i64) 3 w w0.heap.size (fun k_ => ((P0_0_ k_ ∨ P0_1_ k_) ∨ w.heap.size ≤ k_) ∧ some k_ ≠ (u9000_ : Value).ownBlock) u9001_ l0_1 from Kd.R_mono ho0_1 (fun k_ hk => ⟨(.inl (.inr hk)), fun e_ => hp0_1_0_0 k_ hk (ho0_0.1 k_ e_.symm)⟩)); have HK := Aside0.mk (Kept.refl w (fun k_ => P0_0_ k_ ∨ P0_1_ k_)); have HW0 := Aside0.mk hB.size; have HB := Aside0.mk hB; clear hB; have H : ((spec_l3Right.f k l0_0 l0_1).bind fun av => (if av = true then (some (l0_0, l0_1, true)) else (some (([] : List Int), ([] : List Int), false)))) = some (r1, r2, r3) := h; clear h; replace H := Option.bind_eq_some_iff.mp H; obtain ⟨av, aG, H⟩ := H; replace H : (if av = true then (some (l0_0, l0_1, true)) else (some (([] : List Int), ([] : List Int), false))) = some (r1, r2, r3) := H; have A2 := Aside0.mk aG; clear aG
 by_cases c3 : av = true
 ·subst c3
  have H1 : (some (l0_0, l0_1, true)) = some (r1, r2, r3) := by rw [if_pos rfl] at H; exact H
  clear H; have H := H1; clear H1; simp only [Option.some.injEq, Prod.mk.injEq] at H; obtain ⟨rfl, rfl, rfl⟩ := H; obtain ⟨ap, aq, bb⟩ := Kd.R_slice HO0_0.out; subst bb; obtain ⟨ar, au, bc⟩ := Kd.R_slice HO0_1.out; subst bc
  go_enter Try.func59, Try.ntmps59
  go_wp2_with (first | ((with_reducible refine gate_dst (N := 1) rfl ?_); refine box_event ?hg (N := 1) ?hd (cs := #[.slice ap l0_0.length aq, .slice ar l0_1.length au]) (t := 27) ?hr ?_; (case hd => rfl); (case hg => rfl); (case hr => first | (go_simp; done) | (go_simp; rfl)); intro ad hg w6 hbox hb; have ae := xR HO0_0 hb; have af := xR HO0_1 hb; have ag := Aside0.mk (Kept.below (S := (fun k_ => P0_0_ k_ ∨ P0_1_ k_)) (by repeat (first | (with_reducible first | exact HK.out | apply Kept.alloc | apply Kept.drewN | apply Kept.drew) | exact HK.out)) hb); have ah := xS HB hb; have ai := Aside0.mk (hbox); have aj := Aside0.mk ((by rw [hg]; exact (by first | exact HK.out.1 | exact (show Kept w _ (fun k_ => P0_0_ k_ ∨ P0_1_ k_) from by repeat (first | (with_reducible first | exact HK.out | apply Kept.alloc | apply Kept.drewN | apply Kept.drew) | exact HK.out)).1) : w.heap.size ≤ ad)); have al := Aside0.mk ((by rw [hg]; exact (below_size (zS HB.out)) : w0.heap.size ≤ ad)); clear HO0_0; clear HO0_1; clear HK; clear HB; have HO0_0 := ae; have HO0_1 := af; have HK := ag; have HB := ah; have aa := ai; have ak := aj; have aw := al; clear ae af ag ah ai aj al; clear hb hbox hg) | ((with_reducible refine gate_dst (N := 2) rfl ?_); refine box_event ?hg (N := 2) ?hd (cs := #[.slice none 0 0, .slice none 0 0]) (t := 27) ?hr ?_; (case hd => rfl); (case hg => rfl); (case hr => first | (go_simp; done) | (go_simp; rfl)); intro ac hg w7 hbox hb; have ae := xR HO0_0 hb; have af := xR HO0_1 hb; have ag := xB aa hb; have ah := Aside0.mk (Kept.below (S := (fun k_ => P0_0_ k_ ∨ P0_1_ k_)) (by repeat (first | (with_reducible first | exact HK.out | apply Kept.alloc | apply Kept.drewN | apply Kept.drew | refine Kept.setCell ?_ (.inr ak.out) _) | exact HK.out)) hb); have ai := xS HB hb; have aj := Aside0.mk (hbox); have al := Aside0.mk ((by rw [hg]; exact (by first | exact HK.out.1 | exact (show Kept w _ (fun k_ => P0_0_ k_ ∨ P0_1_ k_) from by repeat (first | (with_reducible first | exact HK.out | apply Kept.alloc | apply Kept.drewN | apply Kept.drew | refine Kept.setCell ?_ (.inr ak.out) _) | exact HK.out)).1) : w.heap.size ≤ ac)); have ay := Aside0.mk ((by rw [hg]; exact (below_size (zS HB.out)) : w0.heap.size ≤ ac)); have az := xN aa hg; have aA := xM aa hg; clear HO0_0; clear HO0_1; clear aa; clear HK; clear HB; have HO0_0 := ae; have HO0_1 := af; have aa := ag; have HK := ah; have HB := ai; have ab := aj; have ao := al; have ax := ay; have am := az; have an := aA; clear ae af ag ah ai aj al ay az aA; clear hb hbox hg; have bj := am.out; have bk := an.out; have bd : w7.cell? ⟨ad, 0, none⟩ = some (.slice ap l0_0.length aq) := b1 aa 0; have be : w7.cell? ⟨ad, 1, none⟩ = some (.slice ar l0_1.length au) := b1 aa 1; have bf := blk_frozen aa.out 0; have bg := blk_frozen aa.out 1) | ((with_reducible refine gate_callee (f := 54) rfl ?_); refine goesL_ (some 5) rfl rfl Try.func54 (by kernel_rfl) rfl #[.agg #[.slice ap l0_0.length aq, .slice ar l0_1.length au]] rfl (by (try simp only [m3]); first | done | rfl | (simp only [d2]; rfl)) ?_; (with_reducible refine (spec_l3Right.calls k _ _ l0_0 _ _ l0_1 true _ ?side1 ?side2 ?side3 ?side4 A2.out).mono ?_); (case side1 => exact zC (Kd.R_reads' HO0_0.out).2.2); (case side2 => exact (Kd.R_reads' HO0_0.out).2.1); (case side3 => exact zC (Kd.R_reads' HO0_1.out).2.2); (case side4 => exact (Kd.R_reads' HO0_1.out).2.1); rintro e aF ⟨rfl, hb⟩; refine ⟨_, rfl, ?_⟩; have ae := xR HO0_0 hb; have af := xR HO0_1 hb; have ag := xB aa hb; have ah := xB ab hb; have ai := Aside0.mk (Kept.below (S := (fun k_ => P0_0_ k_ ∨ P0_1_ k_)) (by repeat (first | (with_reducible first | exact HK.out | apply Kept.alloc | apply Kept.drewN | apply Kept.drew | refine Kept.setCell ?_ (.inr ak.out) _ | refine Kept.setCell ?_ (.inr ao.out) _) | exact HK.out)) hb); have aj := xS HB hb; clear HO0_0; clear HO0_1; clear aa; clear ab; clear HK; clear HB; have HO0_0 := ae; have HO0_1 := af; have aa := ag; have ab := ah; have HK := ai; have HB := aj; clear ae af ag ah ai aj; (try clear hb); (try clear hb2); (try clear hk); (try clear hi); have aL : aF.cell? ⟨ad, 0, none⟩ = some (.slice ap l0_0.length aq) := b1 aa 0; have aM : aF.cell? ⟨ad, 1, none⟩ = some (.slice ar l0_1.length au) := b1 aa 1; have aN := blk_frozen aa.out 0; have aO := blk_frozen aa.out 1; have aP : aF.cell? ⟨ac, 0, none⟩ = some (.slice none 0 0) := b1 ab 0; have aQ : aF.cell? ⟨ac, 1, none⟩ = some (.slice none 0 0) := b1 ab 1; have aR := blk_frozen ab.out 0; have aS := blk_frozen ab.out 1))
  refine bodyPost_ret (results_ct rfl _ _ ac 27 #[.slice ap l0_0.length aq, .slice ar l0_1.length au] (0, 0) _ rfl (by (with_reducible repeat (first | refine blk_drewN ?_ _ | refine blk_drew ?_ | refine blk_alloc ?_ _)); refine blk_put (cs := #[.slice ap l0_0.length aq, .slice none 0 0]) ?_ 1 _ rfl; (with_reducible repeat (first | refine blk_drewN ?_ _ | refine blk_drew ?_ | refine blk_alloc ?_ _)); refine blk_put (cs := #[.slice none 0 0, .slice none 0 0]) ?_ 0 _ rfl; (with_reducible repeat (first | refine blk_drewN ?_ _ | refine blk_drew ?_ | refine blk_alloc ?_ _)); exact ab.out) Try.underlying27 rfl (by kernel_rfl)) rfl ?_; exact ⟨_, _, by first | rfl | (simp [errW_none, errW_some] <;> rfl) | (simp [*, errW_none, errW_some] <;> rfl), by (with_reducible repeat (first | apply Kd.R_alloc | apply Kd.R_drewN | apply Kd.R_drew)); exact Kd.R_mono (Kd.R_far (p := ⟨ac, 1, none⟩) (Kd.R_far (p := ⟨ac, 0, none⟩) (Kd.R_types HO0_0.out ab.out (by decide)) (fun _ hk => hk.2) (.slice ap l0_0.length aq)) (fun _ hk => hk.2) (.slice ar l0_1.length au)) (fun _ hk => ⟨hk.1.1, hk.1.2⟩), by (with_reducible repeat (first | apply Kd.R_alloc | apply Kd.R_drewN | apply Kd.R_drew)); exact Kd.R_mono (Kd.R_far (p := ⟨ac, 1, none⟩) (Kd.R_far (p := ⟨ac, 0, none⟩) (Kd.R_types HO0_1.out ab.out (by decide)) (fun _ hk => hk.2) (.slice ap l0_0.length aq)) (fun _ hk => hk.2) (.slice ar l0_1.length au)) (fun _ hk => ⟨hk.1.1, hk.1.2⟩), by repeat (first | (with_reducible first | exact HB.out | apply below_alloc | apply pw_below_drewN | apply below_drew1 | refine below_set ?_ aw.out | refine below_set ?_ ax.out) | exact HB.out), by repeat (first | (with_reducible first | exact HK.out | apply Kept.alloc | apply Kept.drewN | apply Kept.drew | refine Kept.setCell ?_ (.inr ak.out) _ | refine Kept.setCell ?_ (.inr ao.out) _) | exact HK.out)⟩
 ·replace c3 := Bool.eq_false_iff.mpr c3; subst c3
  have H1 : (some (([] : List Int), ([] : List Int), false)) = some (r1, r2, r3) := by rw [if_neg (show ¬ (false = true) by decide)] at H; exact H
  clear H; have H := H1; clear H1; simp only [Option.some.injEq, Prod.mk.injEq] at H; obtain ⟨rfl, rfl, rfl⟩ := H; obtain ⟨aB, aC, aJ⟩ := Kd.R_slice HO0_0.out; subst aJ; obtain ⟨aD, aE, aK⟩ := Kd.R_slice HO0_1.out; subst aK
  go_enter Try.func59, Try.ntmps59
  go_wp2_with (first | ((with_reducible refine gate_dst (N := 1) rfl ?_); refine box_event ?hg (N := 1) ?hd (cs := #[.slice aB l0_0.length aC, .slice aD l0_1.length aE]) (t := 27) ?hr ?_; (case hd => rfl); (case hg => rfl); (case hr => first | (go_simp; done) | (go_simp; rfl)); intro ad hg bl hbox hb; have ae := xR HO0_0 hb; have af := xR HO0_1 hb; have ag := Aside0.mk (Kept.below (S := (fun k_ => P0_0_ k_ ∨ P0_1_ k_)) (by repeat (first | (with_reducible first | exact HK.out | apply Kept.alloc | apply Kept.drewN | apply Kept.drew) | exact HK.out)) hb); have ah := xS HB hb; have ai := Aside0.mk (hbox); have aj := Aside0.mk ((by rw [hg]; exact (by first | exact HK.out.1 | exact (show Kept w _ (fun k_ => P0_0_ k_ ∨ P0_1_ k_) from by repeat (first | (with_reducible first | exact HK.out | apply Kept.alloc | apply Kept.drewN | apply Kept.drew) | exact HK.out)).1) : w.heap.size ≤ ad)); have al := Aside0.mk ((by rw [hg]; exact (below_size (zS HB.out)) : w0.heap.size ≤ ad)); clear HO0_0; clear HO0_1; clear HK; clear HB; have HO0_0 := ae; have HO0_1 := af; have HK := ag; have HB := ah; have aa := ai; have ak := aj; have aw := al; clear ae af ag ah ai aj al; clear hb hbox hg) | ((with_reducible refine gate_dst (N := 2) rfl ?_); refine box_event ?hg (N := 2) ?hd (cs := #[.slice none 0 0, .slice none 0 0]) (t := 27) ?hr ?_; (case hd => rfl); (case hg => rfl); (case hr => first | (go_simp; done) | (go_simp; rfl)); intro ac hg aH hbox hb; have ae := xR HO0_0 hb; have af := xR HO0_1 hb; have ag := xB aa hb; have ah := Aside0.mk (Kept.below (S := (fun k_ => P0_0_ k_ ∨ P0_1_ k_)) (by repeat (first | (with_reducible first | exact HK.out | apply Kept.alloc | apply Kept.drewN | apply Kept.drew | refine Kept.setCell ?_ (.inr ak.out) _) | exact HK.out)) hb); have ai := xS HB hb; have aj := Aside0.mk (hbox); have al := Aside0.mk ((by rw [hg]; exact (by first | exact HK.out.1 | exact (show Kept w _ (fun k_ => P0_0_ k_ ∨ P0_1_ k_) from by repeat (first | (with_reducible first | exact HK.out | apply Kept.alloc | apply Kept.drewN | apply Kept.drew | refine Kept.setCell ?_ (.inr ak.out) _) | exact HK.out)).1) : w.heap.size ≤ ac)); have ay := Aside0.mk ((by rw [hg]; exact (below_size (zS HB.out)) : w0.heap.size ≤ ac)); have az := xN aa hg; have aA := xM aa hg; clear HO0_0; clear HO0_1; clear aa; clear HK; clear HB; have HO0_0 := ae; have HO0_1 := af; have aa := ag; have HK := ah; have HB := ai; have ab := aj; have ao := al; have ax := ay; have am := az; have an := aA; clear ae af ag ah ai aj al ay az aA; clear hb hbox hg; have bh := am.out; have bi := an.out; have aT : aH.cell? ⟨ad, 0, none⟩ = some (.slice aB l0_0.length aC) := b1 aa 0; have aU : aH.cell? ⟨ad, 1, none⟩ = some (.slice aD l0_1.length aE) := b1 aa 1; have aV := blk_frozen aa.out 0; have aW := blk_frozen aa.out 1) | ((with_reducible refine gate_callee (f := 54) rfl ?_); refine goesL_ (some 5) rfl rfl Try.func54 (by kernel_rfl) rfl #[.agg #[.slice aB l0_0.length aC, .slice aD l0_1.length aE]] rfl (by (try simp only [m3]); first | done | rfl | (simp only [d2]; rfl)) ?_; (with_reducible refine (spec_l3Right.calls k _ _ l0_0 _ _ l0_1 false _ ?side1 ?side2 ?side3 ?side4 A2.out).mono ?_); (case side1 => exact zC (Kd.R_reads' HO0_0.out).2.2); (case side2 => exact (Kd.R_reads' HO0_0.out).2.1); (case side3 => exact zC (Kd.R_reads' HO0_1.out).2.2); (case side4 => exact (Kd.R_reads' HO0_1.out).2.1); rintro e aI ⟨rfl, hb⟩; refine ⟨_, rfl, ?_⟩; have ae := xR HO0_0 hb; have af := xR HO0_1 hb; have ag := xB aa hb; have ah := xB ab hb; have ai := Aside0.mk (Kept.below (S := (fun k_ => P0_0_ k_ ∨ P0_1_ k_)) (by repeat (first | (with_reducible first | exact HK.out | apply Kept.alloc | apply Kept.drewN | apply Kept.drew | refine Kept.setCell ?_ (.inr ak.out) _ | refine Kept.setCell ?_ (.inr ao.out) _) | exact HK.out)) hb); have aj := xS HB hb; clear HO0_0; clear HO0_1; clear aa; clear ab; clear HK; clear HB; have HO0_0 := ae; have HO0_1 := af; have aa := ag; have ab := ah; have HK := ai; have HB := aj; clear ae af ag ah ai aj; (try clear hb); (try clear hb2); (try clear hk); (try clear hi); have aX : aI.cell? ⟨ac, 0, none⟩ = some (.slice none 0 0) := b1 ab 0; have aY : aI.cell? ⟨ac, 1, none⟩ = some (.slice none 0 0) := b1 ab 1; have aZ := blk_frozen ab.out 0; have ba := blk_frozen ab.out 1))
  refine bodyPost_ret (results_ct rfl _ _ ac 27 #[.slice none 0 0, .slice none 0 0] (0, 0) _ rfl (by (with_reducible repeat (first | refine blk_drewN ?_ _ | refine blk_drew ?_ | refine blk_alloc ?_ _)); refine blk_put (cs := #[.slice none 0 0, .slice none 0 0]) ?_ 1 _ rfl; (with_reducible repeat (first | refine blk_drewN ?_ _ | refine blk_drew ?_ | refine blk_alloc ?_ _)); refine blk_put (cs := #[.slice none 0 0, .slice none 0 0]) ?_ 0 _ rfl; (with_reducible repeat (first | refine blk_drewN ?_ _ | refine blk_drew ?_ | refine blk_alloc ?_ _)); exact ab.out) Try.underlying27 rfl (by kernel_rfl)) rfl ?_; exact ⟨_, _, by first | rfl | (simp [errW_none, errW_some] <;> rfl) | (simp [*, errW_none, errW_some] <;> rfl), by first | exact Kd.R_nil _ _ _ _ _ | exact Kd.N_nil _ _ _ _ _ | exact Kd.V_nil _ _ _ _ _ | exact Kd.Q_nil _ _ _ _ _ | exact Kd.S_nil _ _ _ _ _, by first | exact Kd.R_nil _ _ _ _ _ | exact Kd.N_nil _ _ _ _ _ | exact Kd.V_nil _ _ _ _ _ | exact Kd.Q_nil _ _ _ _ _ | exact Kd.S_nil _ _ _ _ _, by repeat (first | (with_reducible first | exact HB.out | apply below_alloc | apply pw_below_drewN | apply below_drew1 | refine below_set ?_ aw.out | refine below_set ?_ ax.out) | exact HB.out), by repeat (first | (with_reducible first | exact HK.out | apply Kept.alloc | apply Kept.drewN | apply Kept.drew | refine Kept.setCell ?_ (.inr ak.out) _ | refine Kept.setCell ?_ (.inr ao.out) _) | exact HK.out)⟩

section
open Go.Proofs.Ythkljpbddddhdaa.Short2.T
abbrev spec_WordJoin.bl0 : Array Bool := #[f, f, f, f, f, f, f, f, f, f, f, f, f, f, f, f]
abbrev spec_WordJoin.bl1 : Array Bool := #[f, t, f, f, f, f, f, f, f, f, f, f, f, f, f, f]
abbrev spec_WordJoin.bl2 : Array Bool := #[f, t, f, t, f, f, f, f, f, f, f, f, f, f, f, f]
abbrev spec_WordJoin.bl3 : Array Bool := #[f, t, f, t, f, f, f, t, f, f, f, f, f, f, f, f]
abbrev spec_WordJoin.bl4 : Array Bool := #[f, t, f, t, t, f, f, t, f, f, f, f, f, f, f, f]
abbrev spec_WordJoin.bl5 : Array Bool := #[f, t, f, t, t, f, f, t, t, f, f, f, f, f, f, f]
abbrev spec_WordJoin.bl6 : Array Bool := #[t, t, t, t, t, t, t, t, t, f, f, f, f, f, f, f]
abbrev spec_WordJoin.bl7 : Array Bool := #[t, t, f, t, t, f, f, t, t, f, f, f, f, f, f, f]
abbrev spec_WordJoin.bl8 : Array Bool := #[f, t, f, t, t, f, t, t, t, f, f, f, f, f, f, f]
abbrev spec_WordJoin.bl9 : Array Bool := #[t, t, t, t, t, f, f, t, t, f, f, f, f, f, f, f]
abbrev spec_WordJoin.bl10 : Array Bool := #[t, t, f, t, t, f, t, t, t, f, f, f, f, f, f, f]
abbrev spec_WordJoin.bl11 : Array Bool := #[t, t, t, t, t, t, f, t, t, f, f, f, f, f, f, f]
abbrev spec_WordJoin.bl12 : Array Bool := #[t, t, t, t, t, f, t, t, t, f, f, f, f, f, f, f]
abbrev spec_WordJoin.bl13 : Array Bool := #[t, t, t, t, t, t, t, t, t, t, f, f, f, f, f, f]
abbrev spec_WordJoin.bl14 : Array Bool := #[t, t, t, t, t, t, t, t, t, t, t, f, f, f, f, f]
abbrev spec_WordJoin.bl15 : Array Bool := #[t, t, t, t, t, t, t, t, t, t, t, t, f, f, f, f]
abbrev spec_WordJoin.bl16 : Array Bool := #[t, t, t, t, t, t, t, t, t, t, t, t, t, f, f, f]
abbrev spec_WordJoin.bl17 : Array Bool := #[t, t, t, t, t, t, t, t, t, t, t, t, t, t, f, f]
abbrev spec_WordJoin.bl18 : Array Bool := #[t, t, t, t, t, t, t, t, t, t, t, t, t, t, t, f]
abbrev spec_WordJoin.bl19 : Array Bool := #[t, t, t, t, t, t, t, t, t, t, t, t, t, t, t, t]
end
/-! ### spec_WordJoin: function 31 -/
def spec_WordJoin.f (k : Nat) (l0 : List Int) (l1_0 : List Int) (l1_1 : List Int) : Option (List Int × List Int × Bool) := (spec_l3Right.f k l1_0 l1_1).bind fun t135 => (if t135 = true then (if (l0.length : Int) > 40 then (some (([] : List Int), ([] : List Int), false)) else ((some (([] : List Int) : List Int)).bind fun y136 => (if y136.length + l0.length < 17592186044416 then ((some (y136 ++ l0 : List Int)).bind fun y139 => (if y139.length + l1_0.length < 17592186044416 then ((some (([] : List Int) : List Int)).bind fun y145 => (if y145.length + l1_1.length < 17592186044416 then ((spec_l3Told.f k (y139 ++ l1_0) (y145 ++ l1_1)).bind fun bt151 => (some (bt151.1, bt151.2.1, bt151.2.2))) else (none))) else (none))) else (none)))) else (some (([] : List Int), ([] : List Int), false)))
theorem spec_WordJoin.mono : ∀ a0 a1 a2 k, LeO (spec_WordJoin.f k a0 a1 a2) (spec_WordJoin.f (k + 1) a0 a1 a2) := by
 intro a0 a1 a2 k
 unfold spec_WordJoin.f
 repeat' first
   | (with_reducible exact spec_l3Right.mono _ _ _)
   | (with_reducible exact spec_l3Told.mono _ _ _)
   | (with_reducible exact LeO.refl _)
   | (with_reducible exact LeO.none _)
   | (with_reducible refine LeO.ite ?_ ?_)
   | (with_reducible refine LeO.bind ?_ (fun _ => ?_))
   | exact spec_l3Right.mono _ _ _
   | exact spec_l3Told.mono _ _ _
   | exact LeO.none _
   | refine LeO.ite ?_ ?_
   | refine LeO.bind ?_ (fun _ => ?_)
def spec_WordJoin.T3 : Bool × List (List Nat × List Nat) := (true, [([], []), ([], []), ([0, 1], [0, 1]), ([], []), ([3], [3]), ([2, 4, 2], [2, 4]), ([], []), ([], []), ([7], [7]), ([6, 8, 5], [6, 8]), ([5, 9], [5, 9]), ([10, 9], [10]), ([11], [11]), ([11], [11]), ([12, 11, 0, 1, 2, 3, 4, 5, 6, 7, 8, 9, 10, 11, 12, 13], [12]), ([13, 14, 0, 1, 2, 3, 4, 5, 6, 7, 8, 9, 10, 11, 12, 13, 14], [13])])
def spec_WordJoin.B3 : List Nat := [0, 0, 3, 0, 8, 31, 0, 0, 128, 511, 1023, 2047, 4095, 4095, 16383, 32767]
theorem spec_WordJoin.tab3 : rtab .any (opsOf Try.f31 3) = spec_WordJoin.T3 := by kernel_rfl
theorem spec_WordJoin.bits3 : waitsOk spec_WordJoin.T3.2 spec_WordJoin.B3 = true := by kernel_rfl
open Go.Proofs.Ythkljpbddddhdaa.Short2 in
set_option maxHeartbeats 8000000 in
set_option maxRecDepth 100000 in
theorem spec_WordJoin.calls (k : Nat) (A0 : Option Addr) (c0 : Nat) (l0 : List Int) (A1_0 : Option Addr) (c1_0 : Nat) (l1_0 : List Int) (A1_1 : Option Addr) (c1_1 : Nat) (l1_1 : List Int) (r1 : List Int) (r2 : List Int) (r3 : Bool) (w : World) (hr0 : Kd.C (Kd.int .i64) w A0 l0.length l0) (hc0 : l0.length ≤ c0) (hr1_0 : Kd.C (Kd.int .i64) w A1_0 l1_0.length l1_0) (hc1_0 : l1_0.length ≤ c1_0) (hr1_1 : Kd.C (Kd.int .i64) w A1_1 l1_1.length l1_1) (hc1_1 : l1_1.length ≤ c1_1) (h : spec_WordJoin.f k l0 l1_0 l1_1 = some (r1, r2, r3)) :
  Calls Try.prog 31 #[.slice A0 l0.length c0, .agg #[.slice A1_0 l1_0.length c1_0, .slice A1_1 l1_1.length c1_1]] w fun e w' => ∃ v0_ v1_ : Value, e = .returned (.tuple #[.agg #[v0_, v1_], .bool r3]) ∧ Kd.R (Kd.int .i64) 3 w' w.heap.size (fun k_ => some k_ ≠ (v1_ : Value).ownBlock) v0_ r1 ∧ Kd.R (Kd.int .i64) 3 w' w.heap.size (fun k_ => some k_ ≠ (v0_ : Value).ownBlock) v1_ r2 ∧ Below w.heap.size w w' := by
 have hu27 := Try.underlying27; have HR0 := Aside0.mk hr0; have HC0 := Aside0.mk hc0; clear hr0 hc0; have HR1_0 := Aside0.mk hr1_0; have HC1_0 := Aside0.mk hc1_0; clear hr1_0 hc1_0; have HR1_1 := Aside0.mk hr1_1; have HC1_1 := Aside0.mk hc1_1; clear hr1_1 hc1_1; have HB := Aside0.mk (Below.refl w.heap.size w); have H : ((spec_l3Right.f k l1_0 l1_1).bind fun aU => (if aU = true then (if (l0.length : Int) > 40 then (some (([] : List Int), ([] : List Int), false)) else ((some (([] : List Int) : List Int)).bind fun ar => (if ar.length + l0.length < 17592186044416 then ((some (ar ++ l0 : List Int)).bind fun ao => (if ao.length + l1_0.length < 17592186044416 then ((some (([] : List Int) : List Int)).bind fun ai => (if ai.length + l1_1.length < 17592186044416 then ((spec_l3Told.f k (ao ++ l1_0) (ai ++ l1_1)).bind fun bt151 => (some (bt151.1, bt151.2.1, bt151.2.2))) else (none))) else (none))) else (none)))) else (some (([] : List Int), ([] : List Int), false)))) = some (r1, r2, r3) := h; clear h; replace H := Option.bind_eq_some_iff.mp H; obtain ⟨aU, bs, H⟩ := H; replace H : (if aU = true then (if (l0.length : Int) > 40 then (some (([] : List Int), ([] : List Int), false)) else ((some (([] : List Int) : List Int)).bind fun ar => (if ar.length + l0.length < 17592186044416 then ((some (ar ++ l0 : List Int)).bind fun ao => (if ao.length + l1_0.length < 17592186044416 then ((some (([] : List Int) : List Int)).bind fun ai => (if ai.length + l1_1.length < 17592186044416 then ((spec_l3Told.f k (ao ++ l1_0) (ai ++ l1_1)).bind fun bt151 => (some (bt151.1, bt151.2.1, bt151.2.2))) else (none))) else (none))) else (none)))) else (some (([] : List Int), ([] : List Int), false))) = some (r1, r2, r3) := H; have A3 := Aside0.mk bs; clear bs
 by_cases c4 : aU = true
 ·subst c4
  have H1 : (if (l0.length : Int) > 40 then (some (([] : List Int), ([] : List Int), false)) else ((some (([] : List Int) : List Int)).bind fun ar => (if ar.length + l0.length < 17592186044416 then ((some (ar ++ l0 : List Int)).bind fun ao => (if ao.length + l1_0.length < 17592186044416 then ((some (([] : List Int) : List Int)).bind fun ai => (if ai.length + l1_1.length < 17592186044416 then ((spec_l3Told.f k (ao ++ l1_0) (ai ++ l1_1)).bind fun bt151 => (some (bt151.1, bt151.2.1, bt151.2.2))) else (none))) else (none))) else (none)))) = some (r1, r2, r3) := by rw [if_pos rfl] at H; exact H
  clear H; have H := H1; clear H1
  by_cases c5 : (l0.length : Int) > 40
  ·rw [if_pos c5] at H; have bC : decide (40 < (l0.length : Int)) = true := decide_eq_true c5; have bD : decide (40 < l0.length) = true := decide_eq_true (by omega); clear c5; simp only [Option.some.injEq, Prod.mk.injEq] at H; obtain ⟨rfl, rfl, rfl⟩ := H
   go_enter Try.func31, Try.ntmps31
   go_wp2_with (first | ((with_reducible refine gate_dst (N := 3) rfl ?_); (try (refine gate_guard (by rfl) ?_; dsimp only)); refine box_event ?hg (N := 3) ?hd (cs := #[.slice A1_0 l1_0.length c1_0, .slice A1_1 l1_1.length c1_1]) (t := 27) ?hr ?_; (case hd => rfl); (case hg => rfl); (case hr => first | (go_simp; done) | (go_simp; rfl)); intro ae hg w6 hbox hb; have aa := Aside0.mk (hbox); have be := xG HB hg; have aA := xG HB hg; replace HB := xS HB hb; clear hb hbox hg) | ((with_reducible refine gate_dst (N := 4) rfl ?_); (try (refine gate_guard (by rfl) ?_; dsimp only)); refine box_event ?hg (N := 4) ?hd (cs := #[.slice none 0 0, .slice none 0 0]) (t := 27) ?hr ?_; (case hd => rfl); (case hg => rfl); (case hr => first | (go_simp; done) | (go_simp; rfl)); intro ad hg w7 hbox hb; have ab := Aside0.mk (hbox); have bf := xG HB hg; have aC := xG HB hg; replace HB := xS HB hb; have ah := xN aa hg; have ap := xM aa hg; replace aa := xB aa hb; clear hb hbox hg; have co := ah.out; have cp := ap.out; have ca : w7.cell? ⟨ae, 0, none⟩ = some (.slice A1_0 l1_0.length c1_0) := b1 aa 0; have cb : w7.cell? ⟨ae, 1, none⟩ = some (.slice A1_1 l1_1.length c1_1) := b1 aa 1; have cc := blk_frozen aa.out 0; have cd := blk_frozen aa.out 1) | ((with_reducible refine gate_callee (f := 54) rfl ?_); refine goesL_ (some 7) rfl rfl Try.func54 (by kernel_rfl) rfl #[.agg #[.slice A1_0 l1_0.length c1_0, .slice A1_1 l1_1.length c1_1]] rfl (by (try simp only [m3]); first | done | rfl | (simp only [d2]; rfl)) ?_; (with_reducible refine (spec_l3Right.calls k _ _ l1_0 _ _ l1_1 true _ ?side1 ?side2 ?side3 ?side4 A3.out).mono ?_); (case side1 => exact zC (Kd.C_below HR1_0.out HB.out)); (case side2 => exact HC1_0.out); (case side3 => exact zC (Kd.C_below HR1_1.out HB.out)); (case side4 => exact HC1_1.out); rintro e bt ⟨rfl, hb⟩; refine ⟨_, rfl, ?_⟩; replace aa := xB aa hb; replace ab := xB ab hb; replace HB := xS HB hb; (try clear hb); (try clear hb2); (try clear hk); (try clear hi); have bG : bt.cell? ⟨ad, 0, none⟩ = some (.slice none 0 0) := b1 ab 0; have bH : bt.cell? ⟨ad, 1, none⟩ = some (.slice none 0 0) := b1 ab 1; have bI := blk_frozen ab.out 0; have bJ := blk_frozen ab.out 1))
   refine bodyPost_ret (results_ct rfl _ _ ad 27 #[.slice none 0 0, .slice none 0 0] (0, 0) _ rfl (by (with_reducible repeat (first | refine blk_drewN ?_ _ | refine blk_drew ?_ | refine blk_alloc ?_ _)); refine blk_put (cs := #[.slice none 0 0, .slice none 0 0]) ?_ 1 _ rfl; (with_reducible repeat (first | refine blk_drewN ?_ _ | refine blk_drew ?_ | refine blk_alloc ?_ _)); refine blk_put (cs := #[.slice none 0 0, .slice none 0 0]) ?_ 0 _ rfl; (with_reducible repeat (first | refine blk_drewN ?_ _ | refine blk_drew ?_ | refine blk_alloc ?_ _)); exact ab.out) Try.underlying27 rfl (by kernel_rfl)) rfl ?_; exact ⟨_, _, by first | rfl | (simp [errW_none, errW_some] <;> rfl) | (simp [*, errW_none, errW_some] <;> rfl), by first | exact Kd.R_nil _ _ _ _ _ | exact Kd.N_nil _ _ _ _ _ | exact Kd.V_nil _ _ _ _ _ | exact Kd.Q_nil _ _ _ _ _ | exact Kd.S_nil _ _ _ _ _, by first | exact Kd.R_nil _ _ _ _ _ | exact Kd.N_nil _ _ _ _ _ | exact Kd.V_nil _ _ _ _ _ | exact Kd.Q_nil _ _ _ _ _ | exact Kd.S_nil _ _ _ _ _, by repeat (first | (with_reducible first | exact HB.out | apply below_alloc | apply pw_below_drewN | apply below_drew1 | refine below_set ?_ aA.out | refine below_set ?_ aC.out) | exact HB.out)⟩
  ·rw [if_neg c5] at H; have bC : decide (40 < (l0.length : Int)) = false := decide_eq_false c5; have bD : decide (40 < l0.length) = false := decide_eq_false (by omega); clear c5; obtain ⟨ar, aE⟩ : ∃ y_ : List Int, y_ = (([] : List Int)) := ⟨_, rfl⟩
   replace H : (if ar.length + l0.length < 17592186044416 then ((some (ar ++ l0 : List Int)).bind fun ao => (if ao.length + l1_0.length < 17592186044416 then ((some (([] : List Int) : List Int)).bind fun ai => (if ai.length + l1_1.length < 17592186044416 then ((spec_l3Told.f k (ao ++ l1_0) (ai ++ l1_1)).bind fun bt151 => (some (bt151.1, bt151.2.1, bt151.2.2))) else (none))) else (none))) else (none)) = some (r1, r2, r3) := by first | (rw [aE]; with_reducible exact H) | (have H2_ := (Option.bind_some _ _).symm.trans H; rw [aE]; with_reducible exact H2_) | (have H2_ := (Option.bind_some _ _).symm.trans H; with_reducible exact H2_) | with_reducible exact H | (rw [aE]; exact H) | exact H
   have aM := Aside0.mk aE; clear aE
   by_cases bg : ar.length + l0.length < 17592186044416
   ·rw [if_pos bg] at H; have LMc12 := Aside0.mk bg; clear bg; obtain ⟨ao, aG⟩ : ∃ y_ : List Int, y_ = (ar ++ l0) := ⟨_, rfl⟩
    replace H : (if ao.length + l1_0.length < 17592186044416 then ((some (([] : List Int) : List Int)).bind fun ai => (if ai.length + l1_1.length < 17592186044416 then ((spec_l3Told.f k (ao ++ l1_0) (ai ++ l1_1)).bind fun bt151 => (some (bt151.1, bt151.2.1, bt151.2.2))) else (none))) else (none)) = some (r1, r2, r3) := by first | (rw [aG]; with_reducible exact H) | (have H2_ := (Option.bind_some _ _).symm.trans H; rw [aG]; with_reducible exact H2_) | (have H2_ := (Option.bind_some _ _).symm.trans H; with_reducible exact H2_) | with_reducible exact H | (rw [aG]; exact H) | exact H
    have aV := Aside0.mk aG; clear aG
    by_cases bh : ao.length + l1_0.length < 17592186044416
    ·rw [if_pos bh] at H; have LMc13 := Aside0.mk bh; clear bh; obtain ⟨ay, aH⟩ : ∃ y_ : List Int, y_ = (ao ++ l1_0) := ⟨_, rfl⟩
     replace H : ((some (([] : List Int) : List Int)).bind fun ai => (if ai.length + l1_1.length < 17592186044416 then ((spec_l3Told.f k ay (ai ++ l1_1)).bind fun bt151 => (some (bt151.1, bt151.2.1, bt151.2.2))) else (none))) = some (r1, r2, r3) := by first | (rw [aH]; with_reducible exact H) | (have H2_ := (Option.bind_some _ _).symm.trans H; rw [aH]; with_reducible exact H2_) | (have H2_ := (Option.bind_some _ _).symm.trans H; with_reducible exact H2_) | with_reducible exact H | (rw [aH]; exact H) | exact H
     have aN := Aside0.mk aH; clear aH; obtain ⟨ai, aI⟩ : ∃ y_ : List Int, y_ = (([] : List Int)) := ⟨_, rfl⟩
     replace H : (if ai.length + l1_1.length < 17592186044416 then ((spec_l3Told.f k ay (ai ++ l1_1)).bind fun bt151 => (some (bt151.1, bt151.2.1, bt151.2.2))) else (none)) = some (r1, r2, r3) := by first | (rw [aI]; with_reducible exact H) | (have H2_ := (Option.bind_some _ _).symm.trans H; rw [aI]; with_reducible exact H2_) | (have H2_ := (Option.bind_some _ _).symm.trans H; with_reducible exact H2_) | with_reducible exact H | (rw [aI]; exact H) | exact H
     have ax := Aside0.mk aI; clear aI
     by_cases bi : ai.length + l1_1.length < 17592186044416
     ·rw [if_pos bi] at H; have LMc14 := Aside0.mk bi; clear bi; obtain ⟨aP, aJ⟩ : ∃ y_ : List Int, y_ = (ai ++ l1_1) := ⟨_, rfl⟩
      replace H : ((spec_l3Told.f k ay aP).bind fun bt151 => (some (bt151.1, bt151.2.1, bt151.2.2))) = some (r1, r2, r3) := by first | (rw [aJ]; with_reducible exact H) | (have H2_ := (Option.bind_some _ _).symm.trans H; rw [aJ]; with_reducible exact H2_) | (have H2_ := (Option.bind_some _ _).symm.trans H; with_reducible exact H2_) | with_reducible exact H | (rw [aJ]; exact H) | exact H
      have br := Aside0.mk aJ; clear aJ; replace H := Option.bind_eq_some_iff.mp H; obtain ⟨⟨aK, aQ, bl⟩, bm, H⟩ := H; replace H : (some (aK, aQ, bl)) = some (r1, r2, r3) := H; have ce := Aside0.mk bm; clear bm; simp only [Option.some.injEq, Prod.mk.injEq] at H; obtain ⟨rfl, rfl, rfl⟩ := H
      go_enter Try.func31, Try.ntmps31
      try go_wp2_with (first | ((with_reducible refine gate_dst (N := 3) rfl ?_); (try (refine gate_guard (by rfl) ?_; dsimp only)); refine box_event ?hg (N := 3) ?hd (cs := #[.slice A1_0 l1_0.length c1_0, .slice A1_1 l1_1.length c1_1]) (t := 27) ?hr ?_; (case hd => rfl); (case hg => rfl); (case hr => first | (go_simp; done) | (go_simp; rfl)); intro ae hg cu hbox hb; have aa := Aside0.mk (hbox); have be := xG HB hg; have aA := xG HB hg; replace HB := xS HB hb; clear hb hbox hg) | ((with_reducible refine gate_dst (N := 4) rfl ?_); (try (refine gate_guard (by rfl) ?_; dsimp only)); refine box_event ?hg (N := 4) ?hd (cs := #[.slice none 0 0, .slice none 0 0]) (t := 27) ?hr ?_; (case hd => rfl); (case hg => rfl); (case hr => first | (go_simp; done) | (go_simp; rfl)); intro ad hg bu hbox hb; have ab := Aside0.mk (hbox); have bf := xG HB hg; have aC := xG HB hg; replace HB := xS HB hb; have ah := xN aa hg; have ap := xM aa hg; replace aa := xB aa hb; clear hb hbox hg; have ci := ah.out; have cj := ap.out; have bK : bu.cell? ⟨ae, 0, none⟩ = some (.slice A1_0 l1_0.length c1_0) := b1 aa 0; have bL : bu.cell? ⟨ae, 1, none⟩ = some (.slice A1_1 l1_1.length c1_1) := b1 aa 1; have bM := blk_frozen aa.out 0; have bN := blk_frozen aa.out 1) | ((with_reducible refine gate_callee (f := 54) rfl ?_); refine goesL_ (some 7) rfl rfl Try.func54 (by kernel_rfl) rfl #[.agg #[.slice A1_0 l1_0.length c1_0, .slice A1_1 l1_1.length c1_1]] rfl (by (try simp only [m3]); first | done | rfl | (simp only [d2]; rfl)) ?_; (with_reducible refine (spec_l3Right.calls k _ _ l1_0 _ _ l1_1 true _ ?side1 ?side2 ?side3 ?side4 A3.out).mono ?_); (case side1 => exact zC (Kd.C_below HR1_0.out HB.out)); (case side2 => exact HC1_0.out); (case side3 => exact zC (Kd.C_below HR1_1.out HB.out)); (case side4 => exact HC1_1.out); rintro e cf ⟨rfl, hb⟩; refine ⟨_, rfl, ?_⟩; replace aa := xB aa hb; replace ab := xB ab hb; replace HB := xS HB hb; (try clear hb); (try clear hb2); (try clear hk); (try clear hi)))
      replace aa := Aside0.mk (blk_drew aa.out); replace ab := Aside0.mk (blk_drew ab.out); replace HB := Aside0.mk (below_drew1 HB.out); refine start_ (n := 16) (S := fun w' => w'.cell? ⟨ae, 0, none⟩ = some (.slice A1_0 l1_0.length c1_0) ∧ w'.cell? ⟨ae, 1, none⟩ = some (.slice A1_1 l1_1.length c1_1)) (ds := []) bl0 (by kernel_rfl) rfl rfl ⟨b1 aa 0, b1 aa 1⟩ (fun hHeld => ?_); refine with_tabW spec_WordJoin.tab3 spec_WordJoin.bits3 (fun HT_ HW_ => ?_); generalize cf.drew = cv at aa ab HB hHeld ⊢
      refine pu 1 (some 16) bl1 HT_ ?_ rfl rfl (.inl ⟨by rfl, ?_⟩) ?_ ?_ ?_; rotate_left; (intro w'; go_simp; with_reducible rfl); rotate_left; (simp only [Act.put, q5]; rfl)
      refine pu 3 (some 18) bl2 HT_ ?_ rfl rfl (.inl ⟨by rfl, ?_⟩) ?_ ?_ ?_; rotate_left; (intro w'; go_simp; with_reducible rfl); rotate_left; (simp only [Act.put, q5]; rfl)
      refine pu 7 (some 22) bl3 HT_ ?_ rfl rfl (.inl ⟨by rfl, ?_⟩) ?_ ?_ ?_; rotate_left; (intro w'; go_simp; with_reducible rfl); rotate_left; (simp only [Act.put, q5]; rfl)
      refine take_ (i := 4) (N := some 19) (v := ?_) (a' := ?_) bl4 rfl rfl (take_ofW HT_.out HW_.out (by kernel_rfl)) (fun _ _ _ h => h) (Or.inl ⟨by rfl, ?_⟩) hHeld ?_ ?_; rotate_left
      ·rintro w' ⟨s0, s1⟩; go_simp; with_reducible rfl
      rotate_left
      ·simp only [Act.put, q5]; rfl
      refine take_ (i := 8) (N := some 23) (v := ?_) (a' := ?_) bl5 rfl rfl (take_ofW HT_.out HW_.out (by kernel_rfl)) (fun _ _ _ h => h) (Or.inl ⟨by rfl, ?_⟩) hHeld ?_ ?_; rotate_left
      ·rintro w' ⟨s0, s1⟩; go_simp; with_reducible rfl
      rotate_left
      ·simp only [Act.put, q5]; rfl
      refine join_ (σ := Value × Value × Value × Value) 7 bl6 (fun s_ => [(15, s_.1), (17, s_.2.1), (20, s_.2.2.1), (21, s_.2.2.2)]) (fun s_ w' => (w'.cell? ⟨ae, 0, none⟩ = some (.slice A1_0 l1_0.length c1_0) ∧ w'.cell? ⟨ae, 1, none⟩ = some (.slice A1_1 l1_1.length c1_1)) ∧ (Kd.R (Kd.int .i64) 3 w' w.heap.size (fun k_ => some k_ ≠ (s_.2.2.2 : Value).ownBlock) s_.2.2.1 ay) ∧ (Kd.R (Kd.int .i64) 3 w' w.heap.size (fun k_ => some k_ ≠ (s_.2.2.1 : Value).ownBlock) s_.2.2.2 ai) ∧ (w'.heap[ae]? = some (.cells #[.slice A1_0 l1_0.length c1_0, .slice A1_1 l1_1.length c1_1] 27 (0, 0))) ∧ (w'.heap[ad]? = some (.cells #[.slice none 0 0, .slice none 0 0] 27 (0, 0))) ∧ (Below w.heap.size w w')) ?_ ?_; rotate_left
      ·intro hCont; refine two_ (i := 0) (j := 6) (Ni := some 15) (Nj := some 21) bl7 bl8 rfl rfl rfl rfl (two_of HT_.out (by kernel_rfl)) (by decide) (by decide) (fun K hK => ?_) (fun K hK => ?_)
       ·skip
        refine Kd.R_lit_step (Kd.int .i64) _ 3 ?hg (N := 15) ?hd (xs := ([] : List Int)) (inner := []) (ok := fun _ => True) (okp := fun _ => True) ?hr ?hp (fun _ hk => hk) trivial (Below.refl _ _) (Nat.le_refl _) (by simp) ?_; (case hd => rfl); (case hg => rfl); (case hr => first | (go_simp; done) | (go_simp; rfl)); (case hp => exact (Reps.none _ _))
        intro az cg ho23 hb hg_ hnew_; clear hg_ hnew_
        (first | rw [← aM.out] at ho23 | (simp only [Int.reduceToNat] at ho23; rw [← aM.out] at ho23))
        have an := Aside0.mk (Kd.R_lower ho23 (below_size (zS HB.out))); replace aa := xB aa hb; replace ab := xB ab hb; replace HB := xS HB hb; clear hb ho23; refine hK.out _ _ ⟨b1 aa 0, b1 aa 1⟩ (fun hHeld => ?_); clear hK K; refine norm_ (a' := ?_) ?_ ?_; rotate_left
        ·show Act.put _ (some 15) _ = _; simp only [Act.put, q5]; rfl
        refine two_ (i := 2) (j := 6) (Ni := some 17) (Nj := some 21) bl9 bl10 rfl rfl rfl rfl (two_of HT_.out (by kernel_rfl)) (by decide) (by decide) (fun K hK => ?_) (fun K hK => ?_)
        ·skip
         refine Kd.R_append_rows_step (Kd.int .i64) (w0 := w) w.heap.size (by rfl) (.tmp 15) (.tmp 16) 22 3 (.int .i64 0) 8 rfl Try.underlying22 info3 rfl (by decide) (by omega) az ar l0 _ _ _ (fun _ => True) (fun _ => False) rfl rfl ?aO ?aR (fun _ _ h => h) (fun _ h => h.elim) ?aF ?aB ?aS ?aL ?_
         (case aR => repeat (first | exact (Kd.C_below HR0.out HB.out) | (with_reducible refine Kd.C_alloc ?_ _) | (with_reducible refine Kd.C_drewN ?_ _) | (with_reducible refine Kd.C_drew ?_)))
         (case aB => exact (zS HB.out))
         (case aF => exact (fun _ _ => trivial))
         (case aO => exact (zR an.out))
         (case aS => exact (below_size (zS HB.out)))
         (case aL => have := LMc12.out; omega)
         intro av bv ho hb hg hat; rw [← aV.out] at ho; have aj := Aside0.mk (blk_grown (g := ae) (o := .cells #[.slice A1_0 l1_0.length c1_0, .slice A1_1 l1_1.length c1_1] 27 (0, 0)) (zB aa.out) hg (Kd.R_ne an.out aa.out (by decide))); have ak := Aside0.mk (blk_grown (g := ad) (o := .cells #[.slice none 0 0, .slice none 0 0] 27 (0, 0)) (zB ab.out) hg (Kd.R_ne an.out ab.out (by decide))); have al := Aside0.mk (hb); have am := Aside0.mk (ho); clear aa; clear ab; clear HB; clear an; have aa := aj; have ab := ak; have HB := al; have af := am; clear aj ak al am; clear ho hb hg hat; refine hK.out _ _ ⟨b1 aa 0, b1 aa 1⟩ (fun hHeld => ?_); clear hK K; refine norm_ (a' := ?_) ?_ ?_; rotate_left
         ·show Act.put _ (some 17) _ = _; simp only [Act.put, q5]; rfl
         refine two_ (i := 5) (j := 6) (Ni := some 20) (Nj := some 21) bl11 bl12 rfl rfl rfl rfl (two_of HT_.out (by kernel_rfl)) (by decide) (by decide) (fun K hK => ?_) (fun K hK => ?_)
         ·skip
          refine Kd.R_append_rows_step (Kd.int .i64) (w0 := w) w.heap.size (by rfl) (.tmp 17) (.tmp 19) 22 3 (.int .i64 0) 8 rfl Try.underlying22 info3 rfl (by decide) (by omega) av ao l1_0 _ _ _ (fun _ => True) (fun _ => False) rfl rfl ?aO ?aR (fun _ _ h => h) (fun _ h => h.elim) ?aF ?aB ?aS ?aL ?_
          (case aR => repeat (first | exact (Kd.C_below HR1_0.out HB.out) | (with_reducible refine Kd.C_alloc ?_ _) | (with_reducible refine Kd.C_drewN ?_ _) | (with_reducible refine Kd.C_drew ?_)))
          (case aB => exact (zS HB.out))
          (case aF => exact (fun _ _ => trivial))
          (case aO => exact (zR af.out))
          (case aS => exact (below_size (zS HB.out)))
          (case aL => have := LMc13.out; omega)
          intro aw ch ho hb hg hat; rw [← aN.out] at ho; have aj := Aside0.mk (blk_grown (g := ae) (o := .cells #[.slice A1_0 l1_0.length c1_0, .slice A1_1 l1_1.length c1_1] 27 (0, 0)) (zB aa.out) hg (Kd.R_ne af.out aa.out (by decide))); have ak := Aside0.mk (blk_grown (g := ad) (o := .cells #[.slice none 0 0, .slice none 0 0] 27 (0, 0)) (zB ab.out) hg (Kd.R_ne af.out ab.out (by decide))); have al := Aside0.mk (hb); have am := Aside0.mk (ho); clear aa; clear ab; clear HB; clear af; have aa := aj; have ab := ak; have HB := al; have ag := am; clear aj ak al am; clear ho hb hg hat; refine hK.out _ _ ⟨b1 aa 0, b1 aa 1⟩ (fun hHeld => ?_); clear hK K; refine norm_ (a' := ?_) ?_ ?_; rotate_left
          ·show Act.put _ (some 20) _ = _; simp only [Act.put, q5]; rfl
          refine one_ (i := 6) (N := some 21) bl6 rfl rfl (one_of HT_.out (by kernel_rfl)) (by decide) (fun K hK => ?_)
          refine Kd.R_lit_step (Kd.int .i64) _ 3 ?hg (N := 21) ?hd (xs := ([] : List Int)) (inner := []) (ok := fun _ => True) (okp := fun _ => True) ?hr ?hp (fun _ hk => hk) trivial (Below.refl _ _) (Nat.le_refl _) (by simp) ?_; (case hd => rfl); (case hg => rfl); (case hr => first | (go_simp; done) | (go_simp; rfl)); (case hp => exact (Reps.none _ _))
          intro au bw ho27 hb hg_ hnew_; clear hg_ hnew_
          (first | rw [← ax.out] at ho27 | (simp only [Int.reduceToNat] at ho27; rw [← ax.out] at ho27))
          have ac := Aside0.mk (Kd.R_lower (Kd.R_new' ho27 (Kd.R_lt (zR ag.out))) (below_size (zS HB.out))); replace ag := xE ag ho27 hb; replace aa := xB aa hb; replace ab := xB ab hb; replace HB := xS HB hb; clear hb ho27; refine hK.out _ _ ⟨b1 aa 0, b1 aa 1⟩ (fun hHeld => ?_); clear hK K; refine norm_ (a' := ?_) ?_ ?_; rotate_left
          ·show Act.put _ (some 21) _ = _; simp only [Act.put, q5]; rfl
          exact norm_ (by simp only [putAll, Act.put, q3]) (hCont (az, av, aw, au) _ ⟨hHeld, (by (with_reducible repeat (first | apply Kd.R_alloc | apply Kd.R_drewN | apply Kd.R_drew)); exact Kd.R_mono ag.out (fun _ hk => hk.2)), (by (with_reducible repeat (first | apply Kd.R_alloc | apply Kd.R_drewN | apply Kd.R_drew)); exact Kd.R_mono ac.out (fun _ hk => hk.2)), (zB aa.out), (zB ab.out), (zS HB.out)⟩)
         ·skip
          refine Kd.R_lit_step (Kd.int .i64) _ 3 ?hg (N := 21) ?hd (xs := ([] : List Int)) (inner := []) (ok := fun _ => True) (okp := fun _ => True) ?hr ?hp (fun _ hk => hk) trivial (Below.refl _ _) (Nat.le_refl _) (by simp) ?_; (case hd => rfl); (case hg => rfl); (case hr => first | (go_simp; done) | (go_simp; rfl)); (case hp => exact (Reps.none _ _))
          intro au ch ho26 hb hg_ hnew_; clear hg_ hnew_
          (first | rw [← ax.out] at ho26 | (simp only [Int.reduceToNat] at ho26; rw [← ax.out] at ho26))
          have ac := Aside0.mk (Kd.R_lower (Kd.R_new' ho26 (Kd.R_lt (zR af.out))) (below_size (zS HB.out))); replace af := xE af ho26 hb; replace aa := xB aa hb; replace ab := xB ab hb; replace HB := xS HB hb; clear hb ho26; refine hK.out _ _ ⟨b1 aa 0, b1 aa 1⟩ (fun hHeld => ?_); clear hK K; refine norm_ (a' := ?_) ?_ ?_; rotate_left
          ·show Act.put _ (some 21) _ = _; simp only [Act.put, q5]; rfl
          refine one_ (i := 5) (N := some 20) bl6 rfl rfl (one_of HT_.out (by kernel_rfl)) (by decide) (fun K hK => ?_); refine Kd.R_append_rows_step (Kd.int .i64) (w0 := w) w.heap.size (by rfl) (.tmp 17) (.tmp 19) 22 3 (.int .i64 0) 8 rfl Try.underlying22 info3 rfl (by decide) (by omega) av ao l1_0 _ _ _ (fun k_ => some k_ ≠ (au : Value).ownBlock) (fun _ => False) rfl rfl ?aO ?aR (fun _ _ h => h) (fun _ h => h.elim) ?aF ?aB ?aS ?aL ?_
          (case aR => repeat (first | exact (Kd.C_below HR1_0.out HB.out) | (with_reducible refine Kd.C_alloc ?_ _) | (with_reducible refine Kd.C_drewN ?_ _) | (with_reducible refine Kd.C_drew ?_)))
          (case aB => exact (zS HB.out))
          (case aF => exact (fun k_ hk => Kd.fresh' (Kd.R_lt (zR ac.out)) k_ hk))
          (case aO => exact (by (with_reducible repeat (first | apply Kd.R_alloc | apply Kd.R_drewN | apply Kd.R_drew)); exact Kd.R_mono af.out (fun _ hk => hk.2)))
          (case aS => exact (below_size (zS HB.out)))
          (case aL => have := LMc13.out; omega)
          intro aw bx ho hb hg hat; rw [← aN.out] at ho; have aj := Aside0.mk (blk_grown (g := ae) (o := .cells #[.slice A1_0 l1_0.length c1_0, .slice A1_1 l1_1.length c1_1] 27 (0, 0)) (zB aa.out) hg (Kd.R_ne af.out aa.out (by decide))); have ak := Aside0.mk (blk_grown (g := ad) (o := .cells #[.slice none 0 0, .slice none 0 0] 27 (0, 0)) (zB ab.out) hg (Kd.R_ne af.out ab.out (by decide))); have al := Aside0.mk (Kd.R_after (ok := (fun _ => True)) (zR ac.out) hg hat); have am := Aside0.mk (hb); have aq := Aside0.mk (ho); clear aa; clear ab; clear ac; clear HB; clear af; have aa := aj; have ab := ak; have ac := al; have HB := am; have ag := aq; clear aj ak al am aq; clear ho hb hg hat; refine hK.out _ _ ⟨b1 aa 0, b1 aa 1⟩ (fun hHeld => ?_); clear hK K; refine norm_ (a' := ?_) ?_ ?_; rotate_left
          ·show Act.put _ (some 20) _ = _; simp only [Act.put, q5]; rfl
          exact norm_ (by simp only [putAll, Act.put, q3]) (hCont (az, av, aw, au) _ ⟨hHeld, (zR ag.out), (by (with_reducible repeat (first | apply Kd.R_alloc | apply Kd.R_drewN | apply Kd.R_drew)); exact Kd.R_mono ac.out (fun _ hk => hk.2)), (zB aa.out), (zB ab.out), (zS HB.out)⟩)
        ·skip
         refine Kd.R_lit_step (Kd.int .i64) _ 3 ?hg (N := 21) ?hd (xs := ([] : List Int)) (inner := []) (ok := fun _ => True) (okp := fun _ => True) ?hr ?hp (fun _ hk => hk) trivial (Below.refl _ _) (Nat.le_refl _) (by simp) ?_; (case hd => rfl); (case hg => rfl); (case hr => first | (go_simp; done) | (go_simp; rfl)); (case hp => exact (Reps.none _ _))
         intro au bv ho25 hb hg_ hnew_; clear hg_ hnew_
         (first | rw [← ax.out] at ho25 | (simp only [Int.reduceToNat] at ho25; rw [← ax.out] at ho25))
         have ac := Aside0.mk (Kd.R_lower (Kd.R_new' ho25 (Kd.R_lt (zR an.out))) (below_size (zS HB.out))); replace an := xE an ho25 hb; replace aa := xB aa hb; replace ab := xB ab hb; replace HB := xS HB hb; clear hb ho25; refine hK.out _ _ ⟨b1 aa 0, b1 aa 1⟩ (fun hHeld => ?_); clear hK K; refine norm_ (a' := ?_) ?_ ?_; rotate_left
         ·show Act.put _ (some 21) _ = _; simp only [Act.put, q5]; rfl
         refine one_ (i := 2) (N := some 17) bl12 rfl rfl (one_of HT_.out (by kernel_rfl)) (by decide) (fun K hK => ?_); refine Kd.R_append_rows_step (Kd.int .i64) (w0 := w) w.heap.size (by rfl) (.tmp 15) (.tmp 16) 22 3 (.int .i64 0) 8 rfl Try.underlying22 info3 rfl (by decide) (by omega) az ar l0 _ _ _ (fun k_ => some k_ ≠ (au : Value).ownBlock) (fun _ => False) rfl rfl ?aO ?aR (fun _ _ h => h) (fun _ h => h.elim) ?aF ?aB ?aS ?aL ?_
         (case aR => repeat (first | exact (Kd.C_below HR0.out HB.out) | (with_reducible refine Kd.C_alloc ?_ _) | (with_reducible refine Kd.C_drewN ?_ _) | (with_reducible refine Kd.C_drew ?_)))
         (case aB => exact (zS HB.out))
         (case aF => exact (fun k_ hk => Kd.fresh' (Kd.R_lt (zR ac.out)) k_ hk))
         (case aO => exact (by (with_reducible repeat (first | apply Kd.R_alloc | apply Kd.R_drewN | apply Kd.R_drew)); exact Kd.R_mono an.out (fun _ hk => hk.2)))
         (case aS => exact (below_size (zS HB.out)))
         (case aL => have := LMc12.out; omega)
         intro av bw ho hb hg hat; rw [← aV.out] at ho; have aj := Aside0.mk (blk_grown (g := ae) (o := .cells #[.slice A1_0 l1_0.length c1_0, .slice A1_1 l1_1.length c1_1] 27 (0, 0)) (zB aa.out) hg (Kd.R_ne an.out aa.out (by decide))); have ak := Aside0.mk (blk_grown (g := ad) (o := .cells #[.slice none 0 0, .slice none 0 0] 27 (0, 0)) (zB ab.out) hg (Kd.R_ne an.out ab.out (by decide))); have al := Aside0.mk (Kd.R_after (ok := (fun _ => True)) (zR ac.out) hg hat); have am := Aside0.mk (hb); have aq := Aside0.mk (ho); clear aa; clear ab; clear ac; clear HB; clear an; have aa := aj; have ab := ak; have ac := al; have HB := am; have af := aq; clear aj ak al am aq; clear ho hb hg hat; refine hK.out _ _ ⟨b1 aa 0, b1 aa 1⟩ (fun hHeld => ?_); clear hK K; refine norm_ (a' := ?_) ?_ ?_; rotate_left
         ·show Act.put _ (some 17) _ = _; simp only [Act.put, q5]; rfl
         refine one_ (i := 5) (N := some 20) bl6 rfl rfl (one_of HT_.out (by kernel_rfl)) (by decide) (fun K hK => ?_); refine Kd.R_append_rows_step (Kd.int .i64) (w0 := w) w.heap.size (by rfl) (.tmp 17) (.tmp 19) 22 3 (.int .i64 0) 8 rfl Try.underlying22 info3 rfl (by decide) (by omega) av ao l1_0 _ _ _ (fun k_ => some k_ ≠ (au : Value).ownBlock) (fun _ => False) rfl rfl ?aO ?aR (fun _ _ h => h) (fun _ h => h.elim) ?aF ?aB ?aS ?aL ?_
         (case aR => repeat (first | exact (Kd.C_below HR1_0.out HB.out) | (with_reducible refine Kd.C_alloc ?_ _) | (with_reducible refine Kd.C_drewN ?_ _) | (with_reducible refine Kd.C_drew ?_)))
         (case aB => exact (zS HB.out))
         (case aF => exact (fun k_ hk => Kd.fresh' (Kd.R_lt (zR ac.out)) k_ hk))
         (case aO => exact (zR af.out))
         (case aS => exact (below_size (zS HB.out)))
         (case aL => have := LMc13.out; omega)
         intro aw bx ho hb hg hat; rw [← aN.out] at ho; have aj := Aside0.mk (blk_grown (g := ae) (o := .cells #[.slice A1_0 l1_0.length c1_0, .slice A1_1 l1_1.length c1_1] 27 (0, 0)) (zB aa.out) hg (Kd.R_ne af.out aa.out (by decide))); have ak := Aside0.mk (blk_grown (g := ad) (o := .cells #[.slice none 0 0, .slice none 0 0] 27 (0, 0)) (zB ab.out) hg (Kd.R_ne af.out ab.out (by decide))); have al := Aside0.mk (Kd.R_after (ok := (fun _ => True)) (zR ac.out) hg hat); have am := Aside0.mk (hb); have aq := Aside0.mk (ho); clear aa; clear ab; clear ac; clear HB; clear af; have aa := aj; have ab := ak; have ac := al; have HB := am; have ag := aq; clear aj ak al am aq; clear ho hb hg hat; refine hK.out _ _ ⟨b1 aa 0, b1 aa 1⟩ (fun hHeld => ?_); clear hK K; refine norm_ (a' := ?_) ?_ ?_; rotate_left
         ·show Act.put _ (some 20) _ = _; simp only [Act.put, q5]; rfl
         exact norm_ (by simp only [putAll, Act.put, q3]) (hCont (az, av, aw, au) _ ⟨hHeld, (zR ag.out), (by (with_reducible repeat (first | apply Kd.R_alloc | apply Kd.R_drewN | apply Kd.R_drew)); exact Kd.R_mono ac.out (fun _ hk => hk.2)), (zB aa.out), (zB ab.out), (zS HB.out)⟩)
       ·skip
        refine Kd.R_lit_step (Kd.int .i64) _ 3 ?hg (N := 21) ?hd (xs := ([] : List Int)) (inner := []) (ok := fun _ => True) (okp := fun _ => True) ?hr ?hp (fun _ hk => hk) trivial (Below.refl _ _) (Nat.le_refl _) (by simp) ?_; (case hd => rfl); (case hg => rfl); (case hr => first | (go_simp; done) | (go_simp; rfl)); (case hp => exact (Reps.none _ _))
        intro au cg ho23 hb hg_ hnew_; clear hg_ hnew_
        (first | rw [← ax.out] at ho23 | (simp only [Int.reduceToNat] at ho23; rw [← ax.out] at ho23))
        have ac := Aside0.mk (Kd.R_lower ho23 (below_size (zS HB.out))); replace aa := xB aa hb; replace ab := xB ab hb; replace HB := xS HB hb; clear hb ho23; refine hK.out _ _ ⟨b1 aa 0, b1 aa 1⟩ (fun hHeld => ?_); clear hK K; refine norm_ (a' := ?_) ?_ ?_; rotate_left
        ·show Act.put _ (some 21) _ = _; simp only [Act.put, q5]; rfl
        refine one_ (i := 0) (N := some 15) bl10 rfl rfl (one_of HT_.out (by kernel_rfl)) (by decide) (fun K hK => ?_)
        refine Kd.R_lit_step (Kd.int .i64) _ 3 ?hg (N := 15) ?hd (xs := ([] : List Int)) (inner := []) (ok := fun _ => True) (okp := fun _ => True) ?hr ?hp (fun _ hk => hk) trivial (Below.refl _ _) (Nat.le_refl _) (by simp) ?_; (case hd => rfl); (case hg => rfl); (case hr => first | (go_simp; done) | (go_simp; rfl)); (case hp => exact (Reps.none _ _))
        intro az bv ho25 hb hg_ hnew_; clear hg_ hnew_
        (first | rw [← aM.out] at ho25 | (simp only [Int.reduceToNat] at ho25; rw [← aM.out] at ho25))
        have an := Aside0.mk (Kd.R_lower (Kd.R_new' ho25 (Kd.R_lt (zR ac.out))) (below_size (zS HB.out))); replace ac := xE ac ho25 hb; replace aa := xB aa hb; replace ab := xB ab hb; replace HB := xS HB hb; clear hb ho25; refine hK.out _ _ ⟨b1 aa 0, b1 aa 1⟩ (fun hHeld => ?_); clear hK K; refine norm_ (a' := ?_) ?_ ?_; rotate_left
        ·show Act.put _ (some 15) _ = _; simp only [Act.put, q5]; rfl
        refine one_ (i := 2) (N := some 17) bl12 rfl rfl (one_of HT_.out (by kernel_rfl)) (by decide) (fun K hK => ?_); refine Kd.R_append_rows_step (Kd.int .i64) (w0 := w) w.heap.size (by rfl) (.tmp 15) (.tmp 16) 22 3 (.int .i64 0) 8 rfl Try.underlying22 info3 rfl (by decide) (by omega) az ar l0 _ _ _ (fun k_ => some k_ ≠ (au : Value).ownBlock) (fun _ => False) rfl rfl ?aO ?aR (fun _ _ h => h) (fun _ h => h.elim) ?aF ?aB ?aS ?aL ?_
        (case aR => repeat (first | exact (Kd.C_below HR0.out HB.out) | (with_reducible refine Kd.C_alloc ?_ _) | (with_reducible refine Kd.C_drewN ?_ _) | (with_reducible refine Kd.C_drew ?_)))
        (case aB => exact (zS HB.out))
        (case aF => exact (fun k_ hk => Kd.fresh' (Kd.R_lt (zR ac.out)) k_ hk))
        (case aO => exact (by (with_reducible repeat (first | apply Kd.R_alloc | apply Kd.R_drewN | apply Kd.R_drew)); exact Kd.R_mono an.out (fun _ hk => hk.2)))
        (case aS => exact (below_size (zS HB.out)))
        (case aL => have := LMc12.out; omega)
        intro av bw ho hb hg hat; rw [← aV.out] at ho; have aj := Aside0.mk (blk_grown (g := ae) (o := .cells #[.slice A1_0 l1_0.length c1_0, .slice A1_1 l1_1.length c1_1] 27 (0, 0)) (zB aa.out) hg (Kd.R_ne an.out aa.out (by decide))); have ak := Aside0.mk (blk_grown (g := ad) (o := .cells #[.slice none 0 0, .slice none 0 0] 27 (0, 0)) (zB ab.out) hg (Kd.R_ne an.out ab.out (by decide))); have al := Aside0.mk (Kd.R_after (ok := (fun _ => True)) (zR ac.out) hg hat); have am := Aside0.mk (hb); have aq := Aside0.mk (ho); clear aa; clear ab; clear ac; clear HB; clear an; have aa := aj; have ab := ak; have ac := al; have HB := am; have af := aq; clear aj ak al am aq; clear ho hb hg hat; refine hK.out _ _ ⟨b1 aa 0, b1 aa 1⟩ (fun hHeld => ?_); clear hK K; refine norm_ (a' := ?_) ?_ ?_; rotate_left
        ·show Act.put _ (some 17) _ = _; simp only [Act.put, q5]; rfl
        refine one_ (i := 5) (N := some 20) bl6 rfl rfl (one_of HT_.out (by kernel_rfl)) (by decide) (fun K hK => ?_); refine Kd.R_append_rows_step (Kd.int .i64) (w0 := w) w.heap.size (by rfl) (.tmp 17) (.tmp 19) 22 3 (.int .i64 0) 8 rfl Try.underlying22 info3 rfl (by decide) (by omega) av ao l1_0 _ _ _ (fun k_ => some k_ ≠ (au : Value).ownBlock) (fun _ => False) rfl rfl ?aO ?aR (fun _ _ h => h) (fun _ h => h.elim) ?aF ?aB ?aS ?aL ?_
        (case aR => repeat (first | exact (Kd.C_below HR1_0.out HB.out) | (with_reducible refine Kd.C_alloc ?_ _) | (with_reducible refine Kd.C_drewN ?_ _) | (with_reducible refine Kd.C_drew ?_)))
        (case aB => exact (zS HB.out))
        (case aF => exact (fun k_ hk => Kd.fresh' (Kd.R_lt (zR ac.out)) k_ hk))
        (case aO => exact (zR af.out))
        (case aS => exact (below_size (zS HB.out)))
        (case aL => have := LMc13.out; omega)
        intro aw bx ho hb hg hat; rw [← aN.out] at ho; have aj := Aside0.mk (blk_grown (g := ae) (o := .cells #[.slice A1_0 l1_0.length c1_0, .slice A1_1 l1_1.length c1_1] 27 (0, 0)) (zB aa.out) hg (Kd.R_ne af.out aa.out (by decide))); have ak := Aside0.mk (blk_grown (g := ad) (o := .cells #[.slice none 0 0, .slice none 0 0] 27 (0, 0)) (zB ab.out) hg (Kd.R_ne af.out ab.out (by decide))); have al := Aside0.mk (Kd.R_after (ok := (fun _ => True)) (zR ac.out) hg hat); have am := Aside0.mk (hb); have aq := Aside0.mk (ho); clear aa; clear ab; clear ac; clear HB; clear af; have aa := aj; have ab := ak; have ac := al; have HB := am; have ag := aq; clear aj ak al am aq; clear ho hb hg hat; refine hK.out _ _ ⟨b1 aa 0, b1 aa 1⟩ (fun hHeld => ?_); clear hK K; refine norm_ (a' := ?_) ?_ ?_; rotate_left
        ·show Act.put _ (some 20) _ = _; simp only [Act.put, q5]; rfl
        exact norm_ (by simp only [putAll, Act.put, q3]) (hCont (az, av, aw, au) _ ⟨hHeld, (zR ag.out), (by (with_reducible repeat (first | apply Kd.R_alloc | apply Kd.R_drewN | apply Kd.R_drew)); exact Kd.R_mono ac.out (fun _ hk => hk.2)), (zB aa.out), (zB ab.out), (zS HB.out)⟩)
      rintro ⟨az, av, aw, au⟩ aT ⟨hS_, h0_, h1_, h2_, h3_, h4_⟩; have aj : Aside0 (Kd.R (Kd.int .i64) 3 aT w.heap.size (fun k_ => some k_ ≠ (au : Value).ownBlock) aw ay) := ⟨h0_⟩; have ak : Aside0 (Kd.R (Kd.int .i64) 3 aT w.heap.size (fun k_ => some k_ ≠ (aw : Value).ownBlock) au ai) := ⟨h1_⟩; have al : Aside0 (aT.heap[ae]? = some (.cells #[.slice A1_0 l1_0.length c1_0, .slice A1_1 l1_1.length c1_1] 27 (0, 0))) := ⟨h2_⟩; have am : Aside0 (aT.heap[ad]? = some (.cells #[.slice none 0 0, .slice none 0 0] 27 (0, 0))) := ⟨h3_⟩; have aq : Aside0 (Below w.heap.size w aT) := ⟨h4_⟩; clear aa; clear ab; clear HB; clear h0_ h1_ h2_ h3_ h4_; have ag := aj; have ac := ak; have aa := al; have ab := am; have HB := aq; clear aj ak al am aq; have hHeld : aT.cell? ⟨ae, 0, none⟩ = some (.slice A1_0 l1_0.length c1_0) ∧ aT.cell? ⟨ae, 1, none⟩ = some (.slice A1_1 l1_1.length c1_1) := hS_; refine norm_ (a' := ?_) ?_ ?_; rotate_left
      ·simp only [putAll, Act.put, q3]; rfl
      refine one_ (i := 9) (N := some 24) bl13 rfl rfl (one_of HT_.out (by kernel_rfl)) (by decide) (fun K hK => ?_); refine Kd.R_append_rows_step (Kd.int .i64) (w0 := w) w.heap.size (by rfl) (.tmp 21) (.tmp 23) 22 3 (.int .i64 0) 8 rfl Try.underlying22 info3 rfl (by decide) (by omega) au ai l1_1 _ _ _ (fun k_ => some k_ ≠ (aw : Value).ownBlock) (fun _ => False) rfl rfl ?aO ?aR (fun _ _ h => h) (fun _ h => h.elim) ?aF ?aB ?aS ?aL ?_
      (case aR => repeat (first | exact (Kd.C_below HR1_1.out HB.out) | (with_reducible refine Kd.C_alloc ?_ _) | (with_reducible refine Kd.C_drewN ?_ _) | (with_reducible refine Kd.C_drew ?_)))
      (case aB => exact (zS HB.out))
      (case aF => exact (fun k_ hk => Kd.fresh' (Kd.R_lt (zR ag.out)) k_ hk))
      (case aO => exact (zR ac.out))
      (case aS => exact (below_size (zS HB.out)))
      (case aL => have := LMc14.out; omega)
      intro cq cw ho hb hg hat; rw [← br.out] at ho; have aj := Aside0.mk (blk_grown (g := ae) (o := .cells #[.slice A1_0 l1_0.length c1_0, .slice A1_1 l1_1.length c1_1] 27 (0, 0)) (zB aa.out) hg (Kd.R_ne ac.out aa.out (by decide))); have ak := Aside0.mk (blk_grown (g := ad) (o := .cells #[.slice none 0 0, .slice none 0 0] 27 (0, 0)) (zB ab.out) hg (Kd.R_ne ac.out ab.out (by decide))); have al := Aside0.mk (Kd.R_after (ok := (fun _ => True)) (by (with_reducible repeat (first | apply Kd.R_alloc | apply Kd.R_drewN | apply Kd.R_drew)); exact Kd.R_mono ag.out (fun _ hk => ⟨trivial, hk⟩)) hg hat); have am := Aside0.mk (hb); have aq := Aside0.mk (ho); clear aa; clear ab; clear ag; clear HB; clear ac; have aa := aj; have ab := ak; have ag := al; have HB := am; have aD := aq; clear aj ak al am aq; clear ho hb hg hat; obtain ⟨aY, aZ, bn⟩ := Kd.R_slice aD.out
      (first | subst bn | (injection bn with f1_ f2_ f3_; have f4_ := f1_.symm; have f5_ := f3_.symm; clear f1_ f2_ f3_; subst f4_; subst f5_))
      obtain ⟨ba, bb, bo⟩ := Kd.R_slice ag.out
      (first | subst bo | (injection bo with f1_ f2_ f3_; have f4_ := f1_.symm; have f5_ := f3_.symm; clear f1_ f2_ f3_; subst f4_; subst f5_))
      refine hK.out _ _ ⟨b1 aa 0, b1 aa 1⟩ (fun hHeld => ?_); clear hK K; refine norm_ (a' := ?_) ?_ ?_; rotate_left
      ·show Act.put _ (some 24) _ = _; simp only [Act.put, q5]; rfl
      refine pu 10 (some 25) bl14 HT_ ?_ rfl rfl (.inl ⟨by rfl, ?_⟩) ?_ ?_ ?_; rotate_left; (intro w'; go_simp; with_reducible rfl); rotate_left; (simp only [Act.put, q5]; rfl)
      refine one_ (i := 11) (N := some 26) bl15 rfl rfl (one_of HT_.out (by kernel_rfl)) (by decide) (fun K hK => ?_); refine goes_ Try.func59 (by kernel_rfl) rfl #[.agg #[.slice ba ay.length bb, .slice aY aP.length aZ]] (by rfl) rfl rfl (by (try simp only [m3]); first | done | rfl | (simp only [d2]; rfl)) ?_
      with_reducible refine (spec_l3Told.calls k (fun k_ => some k_ = (.slice ba ay.length bb : Value).ownBlock) (.slice ba ay.length bb) ay (fun k_ => some k_ = (.slice aY aP.length aZ : Value).ownBlock) (.slice aY aP.length aZ) aP aK aQ bl w _ ?side1 ?side2 ?side3 ?side4 ?side5 ce.out).mono ?_
      (case side1 => repeat (first | (with_reducible first | exact HB.out | apply below_alloc | apply pw_below_drewN | apply below_drew1 | refine below_set ?_ aA.out | refine below_set ?_ aC.out) | exact HB.out))
      (case side2 => exact Kd.R_tight rfl ag.out)
      (case side3 => exact fun k_ e_ => (ag.out.1 k_ e_.symm).2)
      (case side4 => exact Kd.R_tight rfl aD.out)
      (case side5 => exact fun k_ e_ => (aD.out.1 k_ e_.symm))
      rintro e bz ⟨bE, bF, rfl, ho0, ho1, hb, hkp⟩; refine ⟨_, rfl, ?_⟩; have aj := Aside0.mk (blk_kept (zB aa.out) hkp (fun hs_ => Or.elim hs_ (fun e_ => (fun e_ => (Kd.R_ne ag.out aa.out (by decide)) e_) e_) (fun e_ => (fun e_ => (Kd.R_ne aD.out aa.out (by decide)) e_) e_))); have ak := Aside0.mk (blk_kept (zB ab.out) hkp (fun hs_ => Or.elim hs_ (fun e_ => (fun e_ => (Kd.R_ne ag.out ab.out (by decide)) e_) e_) (fun e_ => (fun e_ => (Kd.R_ne aD.out ab.out (by decide)) e_) e_))); have al := Aside0.mk (Kd.R_mono (ok' := fun k_ => some k_ ≠ (bF : Value).ownBlock) ho0 (fun k_ hk_ => hk_.2)); have am := Aside0.mk (Kd.R_mono (ok' := fun k_ => some k_ ≠ (bE : Value).ownBlock) ho1 (fun k_ hk_ => hk_.2)); have aq := Aside0.mk (hb); clear aa; clear ab; clear HB; clear ag; clear aD; have aa := aj; have ab := ak; have bj := al; have bk := am; have HB := aq; clear aj ak al am aq
      (try clear hb)
      (try clear hkp)
      (try clear ho0)
      (try clear ho1)
      obtain ⟨aW, aX, bp⟩ := Kd.R_slice bj.out
      (first | subst bp | (injection bp with f1_ f2_ f3_; have f4_ := f1_.symm; have f5_ := f3_.symm; clear f1_ f2_ f3_; subst f4_; subst f5_))
      obtain ⟨bc, bd, bq⟩ := Kd.R_slice bk.out
      (first | subst bq | (injection bq with f1_ f2_ f3_; have f4_ := f1_.symm; have f5_ := f3_.symm; clear f1_ f2_ f3_; subst f4_; subst f5_))
      refine hK.out _ _ ⟨b1 aa 0, b1 aa 1⟩ (fun hHeld => ?_); clear hK K; refine norm_ (a' := ?_) ?_ ?_; rotate_left
      ·show Act.put _ (some 26) _ = _; simp only [Act.put, q5]; rfl
      refine pu 12 (some 27) bl16 HT_ ?_ rfl rfl (.inl ⟨by rfl, ?_⟩) ?_ ?_ ?_; rotate_left; (intro w'; go_simp; with_reducible rfl); rotate_left; (simp only [Act.put, q5]; rfl)
      refine pu 13 (some 28) bl17 HT_ ?_ rfl rfl (.inl ⟨by rfl, ?_⟩) ?_ ?_ ?_; rotate_left; (intro w'; go_simp; with_reducible rfl); rotate_left; (simp only [Act.put, q5]; rfl)
      refine one_ (i := 14) (N := none) bl18 rfl rfl (one_of HT_.out (by kernel_rfl)) (by decide) (fun K hK => ?_); have cr : bz.cell? ⟨ad, 0, none⟩ = some (.slice none 0 0) := b1 ab 0; have ck := blk_frozen ab.out 0; have bO := ah.out; have bP := ap.out; have ct : bz.cell? ⟨ad, 1, none⟩ = some (.slice none 0 0) := b1 ab 1; have cl := blk_frozen ab.out 1; have bQ := ah.out; have bR := ap.out; refine skip_ (w1 := ?_) (by rfl) rfl ?_ ?_; rotate_left
      ·go_simp; rfl
      refine hK.out _ _ ⟨((cell_far (p := ⟨ad, _, none⟩) ah.out _).trans (((cell_far (p := ⟨ad, _, none⟩) ah.out _).trans (hHeld.1)))), ((cell_far (p := ⟨ad, _, none⟩) ah.out _).trans (((cell_far (p := ⟨ad, _, none⟩) ah.out _).trans (hHeld.2))))⟩ (fun hHeld => ?_); clear hK K
      refine pu 15 (some 5) bl19 HT_ ?_ rfl rfl (.inl ⟨by rfl, ?_⟩) ?_ ?_ ?_; rotate_left; (intro w'; go_simp; with_reducible rfl); rotate_left; (simp only [Act.put, q5]; rfl)
      refine done_ (done_of HT_.out (by kernel_rfl)) ?_
      try go_wp2
      refine bodyPost_ret (results_ct rfl _ _ ad 27 #[.slice aW aK.length aX, .slice bc aQ.length bd] (0, 0) _ rfl (by (with_reducible repeat (first | refine blk_drewN ?_ _ | refine blk_drew ?_ | refine blk_alloc ?_ _)); refine blk_put (cs := #[.slice aW aK.length aX, .slice none 0 0]) ?_ 1 _ rfl; (with_reducible repeat (first | refine blk_drewN ?_ _ | refine blk_drew ?_ | refine blk_alloc ?_ _)); refine blk_put (cs := #[.slice none 0 0, .slice none 0 0]) ?_ 0 _ rfl; (with_reducible repeat (first | refine blk_drewN ?_ _ | refine blk_drew ?_ | refine blk_alloc ?_ _)); exact ab.out) Try.underlying27 rfl (by kernel_rfl)) rfl ?_; exact ⟨_, _, by first | rfl | (simp [errW_none, errW_some] <;> rfl) | (simp [*, errW_none, errW_some] <;> rfl), by (with_reducible repeat (first | apply Kd.R_alloc | apply Kd.R_drewN | apply Kd.R_drew)); exact Kd.R_mono (Kd.R_far (p := ⟨ad, 1, none⟩) (Kd.R_far (p := ⟨ad, 0, none⟩) (Kd.R_types bj.out ab.out (by decide)) (fun _ hk => hk.2) (.slice aW aK.length aX)) (fun _ hk => hk.2) (.slice bc aQ.length bd)) (fun _ hk => hk.1), by (with_reducible repeat (first | apply Kd.R_alloc | apply Kd.R_drewN | apply Kd.R_drew)); exact Kd.R_mono (Kd.R_far (p := ⟨ad, 1, none⟩) (Kd.R_far (p := ⟨ad, 0, none⟩) (Kd.R_types bk.out ab.out (by decide)) (fun _ hk => hk.2) (.slice aW aK.length aX)) (fun _ hk => hk.2) (.slice bc aQ.length bd)) (fun _ hk => hk.1), by repeat (first | (with_reducible first | exact HB.out | apply below_alloc | apply pw_below_drewN | apply below_drew1 | refine below_set ?_ aA.out | refine below_set ?_ aC.out) | exact HB.out)⟩
     ·rw [if_neg bi] at H; exact absurd H (by simp)
    ·rw [if_neg bh] at H; exact absurd H (by simp)
   ·rw [if_neg bg] at H; exact absurd H (by simp)
 ·replace c4 := Bool.eq_false_iff.mpr c4; subst c4
  have H1 : (some (([] : List Int), ([] : List Int), false)) = some (r1, r2, r3) := by rw [if_neg (show ¬ (false = true) by decide)] at H; exact H
  clear H; have H := H1; clear H1; simp only [Option.some.injEq, Prod.mk.injEq] at H; obtain ⟨rfl, rfl, rfl⟩ := H
  go_enter Try.func31, Try.ntmps31
  go_wp2_with (first | ((with_reducible refine gate_dst (N := 3) rfl ?_); (try (refine gate_guard (by rfl) ?_; dsimp only)); refine box_event ?hg (N := 3) ?hd (cs := #[.slice A1_0 l1_0.length c1_0, .slice A1_1 l1_1.length c1_1]) (t := 27) ?hr ?_; (case hd => rfl); (case hg => rfl); (case hr => first | (go_simp; done) | (go_simp; rfl)); intro ae hg cx hbox hb; have aa := Aside0.mk (hbox); have be := xG HB hg; have aA := xG HB hg; replace HB := xS HB hb; clear hb hbox hg) | ((with_reducible refine gate_dst (N := 4) rfl ?_); (try (refine gate_guard (by rfl) ?_; dsimp only)); refine box_event ?hg (N := 4) ?hd (cs := #[.slice none 0 0, .slice none 0 0]) (t := 27) ?hr ?_; (case hd => rfl); (case hg => rfl); (case hr => first | (go_simp; done) | (go_simp; rfl)); intro ad hg bA hbox hb; have ab := Aside0.mk (hbox); have bf := xG HB hg; have aC := xG HB hg; replace HB := xS HB hb; have ah := xN aa hg; have ap := xM aa hg; replace aa := xB aa hb; clear hb hbox hg; have cm := ah.out; have cn := ap.out; have bS : bA.cell? ⟨ae, 0, none⟩ = some (.slice A1_0 l1_0.length c1_0) := b1 aa 0; have bT : bA.cell? ⟨ae, 1, none⟩ = some (.slice A1_1 l1_1.length c1_1) := b1 aa 1; have bU := blk_frozen aa.out 0; have bV := blk_frozen aa.out 1) | ((with_reducible refine gate_callee (f := 54) rfl ?_); refine goesL_ (some 7) rfl rfl Try.func54 (by kernel_rfl) rfl #[.agg #[.slice A1_0 l1_0.length c1_0, .slice A1_1 l1_1.length c1_1]] rfl (by (try simp only [m3]); first | done | rfl | (simp only [d2]; rfl)) ?_; (with_reducible refine (spec_l3Right.calls k _ _ l1_0 _ _ l1_1 false _ ?side1 ?side2 ?side3 ?side4 A3.out).mono ?_); (case side1 => exact zC (Kd.C_below HR1_0.out HB.out)); (case side2 => exact HC1_0.out); (case side3 => exact zC (Kd.C_below HR1_1.out HB.out)); (case side4 => exact HC1_1.out); rintro e bB ⟨rfl, hb⟩; refine ⟨_, rfl, ?_⟩; replace aa := xB aa hb; replace ab := xB ab hb; replace HB := xS HB hb; (try clear hb); (try clear hb2); (try clear hk); (try clear hi); have bW : bB.cell? ⟨ad, 0, none⟩ = some (.slice none 0 0) := b1 ab 0; have bX : bB.cell? ⟨ad, 1, none⟩ = some (.slice none 0 0) := b1 ab 1; have bY := blk_frozen ab.out 0; have bZ := blk_frozen ab.out 1))
  refine bodyPost_ret (results_ct rfl _ _ ad 27 #[.slice none 0 0, .slice none 0 0] (0, 0) _ rfl (by (with_reducible repeat (first | refine blk_drewN ?_ _ | refine blk_drew ?_ | refine blk_alloc ?_ _)); refine blk_put (cs := #[.slice none 0 0, .slice none 0 0]) ?_ 1 _ rfl; (with_reducible repeat (first | refine blk_drewN ?_ _ | refine blk_drew ?_ | refine blk_alloc ?_ _)); refine blk_put (cs := #[.slice none 0 0, .slice none 0 0]) ?_ 0 _ rfl; (with_reducible repeat (first | refine blk_drewN ?_ _ | refine blk_drew ?_ | refine blk_alloc ?_ _)); exact ab.out) Try.underlying27 rfl (by kernel_rfl)) rfl ?_; exact ⟨_, _, by first | rfl | (simp [errW_none, errW_some] <;> rfl) | (simp [*, errW_none, errW_some] <;> rfl), by first | exact Kd.R_nil _ _ _ _ _ | exact Kd.N_nil _ _ _ _ _ | exact Kd.V_nil _ _ _ _ _ | exact Kd.Q_nil _ _ _ _ _ | exact Kd.S_nil _ _ _ _ _, by first | exact Kd.R_nil _ _ _ _ _ | exact Kd.N_nil _ _ _ _ _ | exact Kd.V_nil _ _ _ _ _ | exact Kd.Q_nil _ _ _ _ _ | exact Kd.S_nil _ _ _ _ _, by repeat (first | (with_reducible first | exact HB.out | apply below_alloc | apply pw_below_drewN | apply below_drew1 | refine below_set ?_ aA.out | refine below_set ?_ aC.out) | exact HB.out)⟩


/-! ### impl_rightOr: function 60 -/
def impl_rightOr.f (k : Nat) (l0_0 : List Int) (l0_1 : List Int) (a1 : Bool) : Option (List Int × List Int × Bool) := if a1 = true then ((impl_isRight.f k l0_0 l0_1).bind fun t160 => (if t160 = true then (some (l0_0, l0_1, true)) else (some (([] : List Int), ([] : List Int), false)))) else (some (([] : List Int), ([] : List Int), false))
theorem impl_rightOr.mono : ∀ a0 a1 a2 k, LeO (impl_rightOr.f k a0 a1 a2) (impl_rightOr.f (k + 1) a0 a1 a2) := by
 intro a0 a1 a2 k
 unfold impl_rightOr.f
 repeat' first
   | (with_reducible exact impl_isRight.mono _ _ _)
   | (with_reducible exact LeO.refl _)
   | (with_reducible exact LeO.none _)
   | (with_reducible refine LeO.ite ?_ ?_)
   | (with_reducible refine LeO.bind ?_ (fun _ => ?_))
   | exact impl_isRight.mono _ _ _
   | exact LeO.none _
   | refine LeO.ite ?_ ?_
   | refine LeO.bind ?_ (fun _ => ?_)
open Go.Proofs.Ythkljpbddddhdaa.Short2 in
set_option maxHeartbeats 8000000 in
set_option maxRecDepth 100000 in
theorem impl_rightOr.calls (k : Nat) (P0_0_ : Nat → Prop) (u9000_ : Value) (l0_0 : List Int) (P0_1_ : Nat → Prop) (u9001_ : Value) (l0_1 : List Int) (a1 : Bool) (r1 : List Int) (r2 : List Int) (r3 : Bool) (w0 w : World) (hB : Below w0.heap.size w0 w) (ho0_0 : Kd.R (Kd.int .i64) 3 w w0.heap.size P0_0_ u9000_ l0_0) (hp0_0_0_1 : ∀ k_, P0_0_ k_ → ¬ P0_1_ k_) (ho0_1 : Kd.R (Kd.int .i64) 3 w w0.heap.size P0_1_ u9001_ l0_1) (hp0_1_0_0 : ∀ k_, P0_1_ k_ → ¬ P0_0_ k_) (h : impl_rightOr.f k l0_0 l0_1 a1 = some (r1, r2, r3)) :
  Calls Try.prog 60 #[.agg #[u9000_, u9001_], .bool a1] w fun e w' => ∃ v0_ v1_ : Value, e = .returned (.tuple #[.agg #[v0_, v1_], .bool r3]) ∧ Kd.R (Kd.int .i64) 3 w' w0.heap.size (fun k_ => ((P0_0_ k_ ∨ P0_1_ k_) ∨ w.heap.size ≤ k_) ∧ some k_ ≠ (v1_ : Value).ownBlock) v0_ r1 ∧ Kd.R (Kd.int .i64) 3 w' w0.heap.size (fun k_ => ((P0_0_ k_ ∨ P0_1_ k_) ∨ w.heap.size ≤ k_) ∧ some k_ ≠ (v0_ : Value).ownBlock) v1_ r2 ∧ Below w0.heap.size w0 w' ∧ Kept w w' (fun k_ => P0_0_ k_ ∨ P0_1_ k_) := by
 have hu27 := Try.underlying27; have HO0_0 := Aside0.mk (show Kd.R (Kd.int .i64) 3 w w0.heap.size (fun k_ => ((P0_0_ k_ ∨ P0_1_ k_) ∨ w.heap.size ≤ k_) ∧ some k_ ≠ (u9001_ : Value).ownBlock) u9000_ l0_0 from Kd.R_mono ho0_0 (fun k_ hk => ⟨(.inl (.inl hk)), fun e_ => hp0_0_0_1 k_ hk (ho0_1.1 k_ e_.symm)⟩)); have HO0_1 := Aside0.mk (show Kd.R (Kd.int .i64) 3 w w0.heap.size (fun k_ => ((P0_0_ k_ ∨ P0_1_ k_) ∨ w.heap.size ≤ k_) ∧ some k_ ≠ (u9000_ : Value).ownBlock) u9001_ l0_1 from Kd.R_mono ho0_1 (fun k_ hk => ⟨(.inl (.inr hk)), fun e_ => hp0_1_0_0 k_ hk (ho0_0.1 k_ e_.symm)⟩)); have HK := Aside0.mk (Kept.refl w (fun k_ => P0_0_ k_ ∨ P0_1_ k_)); have HW0 := Aside0.mk hB.size; have HB := Aside0.mk hB; clear hB; have H : (if a1 = true then ((impl_isRight.f k l0_0 l0_1).bind fun ar => (if ar = true then (some (l0_0, l0_1, true)) else (some (([] : List Int), ([] : List Int), false)))) else (some (([] : List Int), ([] : List Int), false))) = some (r1, r2, r3) := h; clear h
 by_cases c3 : a1 = true
 ·subst c3
  have H1 : ((impl_isRight.f k l0_0 l0_1).bind fun ar => (if ar = true then (some (l0_0, l0_1, true)) else (some (([] : List Int), ([] : List Int), false)))) = some (r1, r2, r3) := by rw [if_pos rfl] at H; exact H
  clear H; have H := H1; clear H1; replace H := Option.bind_eq_some_iff.mp H; obtain ⟨ar, aG, H⟩ := H; replace H : (if ar = true then (some (l0_0, l0_1, true)) else (some (([] : List Int), ([] : List Int), false))) = some (r1, r2, r3) := H; have A4 := Aside0.mk aG; clear aG
  by_cases c5 : ar = true
  ·subst c5
   have H1 : (some (l0_0, l0_1, true)) = some (r1, r2, r3) := by rw [if_pos rfl] at H; exact H
   clear H; have H := H1; clear H1; simp only [Option.some.injEq, Prod.mk.injEq] at H; obtain ⟨rfl, rfl, rfl⟩ := H; obtain ⟨ax, ay, bq⟩ := Kd.R_slice HO0_0.out; subst bq; obtain ⟨az, aA, br⟩ := Kd.R_slice HO0_1.out; subst br
   go_enter Try.func60, Try.ntmps60
   go_wp2_with (first | ((with_reducible refine gate_dst (N := 2) rfl ?_); refine box_event ?hg (N := 2) ?hd (cs := #[.slice ax l0_0.length ay, .slice az l0_1.length aA]) (t := 27) ?hr ?_; (case hd => rfl); (case hg => rfl); (case hr => first | (go_simp; done) | (go_simp; rfl)); intro ad hg w8 hbox hb; have ae := xR HO0_0 hb; have af := xR HO0_1 hb; have ag := Aside0.mk (Kept.below (S := (fun k_ => P0_0_ k_ ∨ P0_1_ k_)) (by repeat (first | (with_reducible first | exact HK.out | apply Kept.alloc | apply Kept.drewN | apply Kept.drew) | exact HK.out)) hb); have ah := xS HB hb; have ai := Aside0.mk (hbox); have aj := Aside0.mk ((by rw [hg]; exact (by first | exact HK.out.1 | exact (show Kept w _ (fun k_ => P0_0_ k_ ∨ P0_1_ k_) from by repeat (first | (with_reducible first | exact HK.out | apply Kept.alloc | apply Kept.drewN | apply Kept.drew) | exact HK.out)).1) : w.heap.size ≤ ad)); have al := Aside0.mk ((by rw [hg]; exact (below_size (zS HB.out)) : w0.heap.size ≤ ad)); clear HO0_0; clear HO0_1; clear HK; clear HB; have HO0_0 := ae; have HO0_1 := af; have HK := ag; have HB := ah; have aa := ai; have ak := aj; have ap := al; clear ae af ag ah ai aj al; clear hb hbox hg) | ((with_reducible refine gate_dst (N := 4) rfl ?_); refine box_event ?hg (N := 4) ?hd (cs := #[.slice none 0 0, .slice none 0 0]) (t := 27) ?hr ?_; (case hd => rfl); (case hg => rfl); (case hr => first | (go_simp; done) | (go_simp; rfl)); intro ac hg w9 hbox hb; have ae := xR HO0_0 hb; have af := xR HO0_1 hb; have ag := xB aa hb; have ah := Aside0.mk (Kept.below (S := (fun k_ => P0_0_ k_ ∨ P0_1_ k_)) (by repeat (first | (with_reducible first | exact HK.out | apply Kept.alloc | apply Kept.drewN | apply Kept.drew | refine Kept.setCell ?_ (.inr ak.out) _) | exact HK.out)) hb); have ai := xS HB hb; have aj := Aside0.mk (hbox); have al := Aside0.mk ((by rw [hg]; exact (by first | exact HK.out.1 | exact (show Kept w _ (fun k_ => P0_0_ k_ ∨ P0_1_ k_) from by repeat (first | (with_reducible first | exact HK.out | apply Kept.alloc | apply Kept.drewN | apply Kept.drew | refine Kept.setCell ?_ (.inr ak.out) _) | exact HK.out)).1) : w.heap.size ≤ ac)); have au := Aside0.mk ((by rw [hg]; exact (below_size (zS HB.out)) : w0.heap.size ≤ ac)); have av := xN aa hg; have aw := xM aa hg; clear HO0_0; clear HO0_1; clear aa; clear HK; clear HB; have HO0_0 := ae; have HO0_1 := af; have aa := ag; have HK := ah; have HB := ai; have ab := aj; have ao := al; have aq := au; have am := av; have an := aw; clear ae af ag ah ai aj al au av aw; clear hb hbox hg; have bs := am.out; have bt := an.out; have aS : w9.cell? ⟨ad, 0, none⟩ = some (.slice ax l0_0.length ay) := b1 aa 0; have aT : w9.cell? ⟨ad, 1, none⟩ = some (.slice az l0_1.length aA) := b1 aa 1; have aU := blk_frozen aa.out 0; have aV := blk_frozen aa.out 1) | (go_at_call 56; (with_reducible refine (impl_isRight.calls k _ _ l0_0 _ _ l0_1 true _ ?side1 ?side2 ?side3 ?side4 A4.out).mono ?_); (case side1 => exact zC (Kd.R_reads' HO0_0.out).2.2); (case side2 => exact (Kd.R_reads' HO0_0.out).2.1); (case side3 => exact zC (Kd.R_reads' HO0_1.out).2.2); (case side4 => exact (Kd.R_reads' HO0_1.out).2.1); rintro e aB ⟨rfl, hb⟩; have ae := xR HO0_0 hb; have af := xR HO0_1 hb; have ag := xB aa hb; have ah := xB ab hb; have ai := Aside0.mk (Kept.below (S := (fun k_ => P0_0_ k_ ∨ P0_1_ k_)) (by repeat (first | (with_reducible first | exact HK.out | apply Kept.alloc | apply Kept.drewN | apply Kept.drew | refine Kept.setCell ?_ (.inr ak.out) _ | refine Kept.setCell ?_ (.inr ao.out) _) | exact HK.out)) hb); have aj := xS HB hb; clear HO0_0; clear HO0_1; clear aa; clear ab; clear HK; clear HB; have HO0_0 := ae; have HO0_1 := af; have aa := ag; have ab := ah; have HK := ai; have HB := aj; clear ae af ag ah ai aj; (try clear hb); (try clear hb2); (try clear hk); (try clear hi); have aW : aB.cell? ⟨ad, 0, none⟩ = some (.slice ax l0_0.length ay) := b1 aa 0; have aX : aB.cell? ⟨ad, 1, none⟩ = some (.slice az l0_1.length aA) := b1 aa 1; have aY := blk_frozen aa.out 0; have aZ := blk_frozen aa.out 1; have ba : aB.cell? ⟨ac, 0, none⟩ = some (.slice none 0 0) := b1 ab 0; have bb : aB.cell? ⟨ac, 1, none⟩ = some (.slice none 0 0) := b1 ab 1; have bc := blk_frozen ab.out 0; have bd := blk_frozen ab.out 1))
   refine bodyPost_ret (results_ct rfl _ _ ac 27 #[.slice ax l0_0.length ay, .slice az l0_1.length aA] (0, 0) _ rfl (by (with_reducible repeat (first | refine blk_drewN ?_ _ | refine blk_drew ?_ | refine blk_alloc ?_ _)); refine blk_put (cs := #[.slice ax l0_0.length ay, .slice none 0 0]) ?_ 1 _ rfl; (with_reducible repeat (first | refine blk_drewN ?_ _ | refine blk_drew ?_ | refine blk_alloc ?_ _)); refine blk_put (cs := #[.slice none 0 0, .slice none 0 0]) ?_ 0 _ rfl; (with_reducible repeat (first | refine blk_drewN ?_ _ | refine blk_drew ?_ | refine blk_alloc ?_ _)); exact ab.out) Try.underlying27 rfl (by kernel_rfl)) rfl ?_; exact ⟨_, _, by first | rfl | (simp [errW_none, errW_some] <;> rfl) | (simp [*, errW_none, errW_some] <;> rfl), by (with_reducible repeat (first | apply Kd.R_alloc | apply Kd.R_drewN | apply Kd.R_drew)); exact Kd.R_mono (Kd.R_far (p := ⟨ac, 1, none⟩) (Kd.R_far (p := ⟨ac, 0, none⟩) (Kd.R_types HO0_0.out ab.out (by decide)) (fun _ hk => hk.2) (.slice ax l0_0.length ay)) (fun _ hk => hk.2) (.slice az l0_1.length aA)) (fun _ hk => ⟨hk.1.1, hk.1.2⟩), by (with_reducible repeat (first | apply Kd.R_alloc | apply Kd.R_drewN | apply Kd.R_drew)); exact Kd.R_mono (Kd.R_far (p := ⟨ac, 1, none⟩) (Kd.R_far (p := ⟨ac, 0, none⟩) (Kd.R_types HO0_1.out ab.out (by decide)) (fun _ hk => hk.2) (.slice ax l0_0.length ay)) (fun _ hk => hk.2) (.slice az l0_1.length aA)) (fun _ hk => ⟨hk.1.1, hk.1.2⟩), by repeat (first | (with_reducible first | exact HB.out | apply below_alloc | apply pw_below_drewN | apply below_drew1 | refine below_set ?_ ap.out | refine below_set ?_ aq.out) | exact HB.out), by repeat (first | (with_reducible first | exact HK.out | apply Kept.alloc | apply Kept.drewN | apply Kept.drew | refine Kept.setCell ?_ (.inr ak.out) _ | refine Kept.setCell ?_ (.inr ao.out) _) | exact HK.out)⟩
  ·replace c5 := Bool.eq_false_iff.mpr c5; subst c5
   have H1 : (some (([] : List Int), ([] : List Int), false)) = some (r1, r2, r3) := by rw [if_neg (show ¬ (false = true) by decide)] at H; exact H
   clear H; have H := H1; clear H1; simp only [Option.some.injEq, Prod.mk.injEq] at H; obtain ⟨rfl, rfl, rfl⟩ := H; obtain ⟨aC, aD, aK⟩ := Kd.R_slice HO0_0.out; subst aK; obtain ⟨aE, aF, aL⟩ := Kd.R_slice HO0_1.out; subst aL
   go_enter Try.func60, Try.ntmps60
   go_wp2_with (first | ((with_reducible refine gate_dst (N := 2) rfl ?_); refine box_event ?hg (N := 2) ?hd (cs := #[.slice aC l0_0.length aD, .slice aE l0_1.length aF]) (t := 27) ?hr ?_; (case hd => rfl); (case hg => rfl); (case hr => first | (go_simp; done) | (go_simp; rfl)); intro ad hg bz hbox hb; have ae := xR HO0_0 hb; have af := xR HO0_1 hb; have ag := Aside0.mk (Kept.below (S := (fun k_ => P0_0_ k_ ∨ P0_1_ k_)) (by repeat (first | (with_reducible first | exact HK.out | apply Kept.alloc | apply Kept.drewN | apply Kept.drew) | exact HK.out)) hb); have ah := xS HB hb; have ai := Aside0.mk (hbox); have aj := Aside0.mk ((by rw [hg]; exact (by first | exact HK.out.1 | exact (show Kept w _ (fun k_ => P0_0_ k_ ∨ P0_1_ k_) from by repeat (first | (with_reducible first | exact HK.out | apply Kept.alloc | apply Kept.drewN | apply Kept.drew) | exact HK.out)).1) : w.heap.size ≤ ad)); have al := Aside0.mk ((by rw [hg]; exact (below_size (zS HB.out)) : w0.heap.size ≤ ad)); clear HO0_0; clear HO0_1; clear HK; clear HB; have HO0_0 := ae; have HO0_1 := af; have HK := ag; have HB := ah; have aa := ai; have ak := aj; have ap := al; clear ae af ag ah ai aj al; clear hb hbox hg) | ((with_reducible refine gate_dst (N := 4) rfl ?_); refine box_event ?hg (N := 4) ?hd (cs := #[.slice none 0 0, .slice none 0 0]) (t := 27) ?hr ?_; (case hd => rfl); (case hg => rfl); (case hr => first | (go_simp; done) | (go_simp; rfl)); intro ac hg aH hbox hb; have ae := xR HO0_0 hb; have af := xR HO0_1 hb; have ag := xB aa hb; have ah := Aside0.mk (Kept.below (S := (fun k_ => P0_0_ k_ ∨ P0_1_ k_)) (by repeat (first | (with_reducible first | exact HK.out | apply Kept.alloc | apply Kept.drewN | apply Kept.drew | refine Kept.setCell ?_ (.inr ak.out) _) | exact HK.out)) hb); have ai := xS HB hb; have aj := Aside0.mk (hbox); have al := Aside0.mk ((by rw [hg]; exact (by first | exact HK.out.1 | exact (show Kept w _ (fun k_ => P0_0_ k_ ∨ P0_1_ k_) from by repeat (first | (with_reducible first | exact HK.out | apply Kept.alloc | apply Kept.drewN | apply Kept.drew | refine Kept.setCell ?_ (.inr ak.out) _) | exact HK.out)).1) : w.heap.size ≤ ac)); have au := Aside0.mk ((by rw [hg]; exact (below_size (zS HB.out)) : w0.heap.size ≤ ac)); have av := xN aa hg; have aw := xM aa hg; clear HO0_0; clear HO0_1; clear aa; clear HK; clear HB; have HO0_0 := ae; have HO0_1 := af; have aa := ag; have HK := ah; have HB := ai; have ab := aj; have ao := al; have aq := au; have am := av; have an := aw; clear ae af ag ah ai aj al au av aw; clear hb hbox hg; have bu := am.out; have bv := an.out; have be : aH.cell? ⟨ad, 0, none⟩ = some (.slice aC l0_0.length aD) := b1 aa 0; have bf : aH.cell? ⟨ad, 1, none⟩ = some (.slice aE l0_1.length aF) := b1 aa 1; have bg := blk_frozen aa.out 0; have bh := blk_frozen aa.out 1) | (go_at_call 56; (with_reducible refine (impl_isRight.calls k _ _ l0_0 _ _ l0_1 false _ ?side1 ?side2 ?side3 ?side4 A4.out).mono ?_); (case side1 => exact zC (Kd.R_reads' HO0_0.out).2.2); (case side2 => exact (Kd.R_reads' HO0_0.out).2.1); (case side3 => exact zC (Kd.R_reads' HO0_1.out).2.2); (case side4 => exact (Kd.R_reads' HO0_1.out).2.1); rintro e aI ⟨rfl, hb⟩; have ae := xR HO0_0 hb; have af := xR HO0_1 hb; have ag := xB aa hb; have ah := xB ab hb; have ai := Aside0.mk (Kept.below (S := (fun k_ => P0_0_ k_ ∨ P0_1_ k_)) (by repeat (first | (with_reducible first | exact HK.out | apply Kept.alloc | apply Kept.drewN | apply Kept.drew | refine Kept.setCell ?_ (.inr ak.out) _ | refine Kept.setCell ?_ (.inr ao.out) _) | exact HK.out)) hb); have aj := xS HB hb; clear HO0_0; clear HO0_1; clear aa; clear ab; clear HK; clear HB; have HO0_0 := ae; have HO0_1 := af; have aa := ag; have ab := ah; have HK := ai; have HB := aj; clear ae af ag ah ai aj; (try clear hb); (try clear hb2); (try clear hk); (try clear hi); have bi : aI.cell? ⟨ac, 0, none⟩ = some (.slice none 0 0) := b1 ab 0; have bj : aI.cell? ⟨ac, 1, none⟩ = some (.slice none 0 0) := b1 ab 1; have bk := blk_frozen ab.out 0; have bl := blk_frozen ab.out 1))
   refine bodyPost_ret (results_ct rfl _ _ ac 27 #[.slice none 0 0, .slice none 0 0] (0, 0) _ rfl (by (with_reducible repeat (first | refine blk_drewN ?_ _ | refine blk_drew ?_ | refine blk_alloc ?_ _)); refine blk_put (cs := #[.slice none 0 0, .slice none 0 0]) ?_ 1 _ rfl; (with_reducible repeat (first | refine blk_drewN ?_ _ | refine blk_drew ?_ | refine blk_alloc ?_ _)); refine blk_put (cs := #[.slice none 0 0, .slice none 0 0]) ?_ 0 _ rfl; (with_reducible repeat (first | refine blk_drewN ?_ _ | refine blk_drew ?_ | refine blk_alloc ?_ _)); exact ab.out) Try.underlying27 rfl (by kernel_rfl)) rfl ?_; exact ⟨_, _, by first | rfl | (simp [errW_none, errW_some] <;> rfl) | (simp [*, errW_none, errW_some] <;> rfl), by first | exact Kd.R_nil _ _ _ _ _ | exact Kd.N_nil _ _ _ _ _ | exact Kd.V_nil _ _ _ _ _ | exact Kd.Q_nil _ _ _ _ _ | exact Kd.S_nil _ _ _ _ _, by first | exact Kd.R_nil _ _ _ _ _ | exact Kd.N_nil _ _ _ _ _ | exact Kd.V_nil _ _ _ _ _ | exact Kd.Q_nil _ _ _ _ _ | exact Kd.S_nil _ _ _ _ _, by repeat (first | (with_reducible first | exact HB.out | apply below_alloc | apply pw_below_drewN | apply below_drew1 | refine below_set ?_ ap.out | refine below_set ?_ aq.out) | exact HB.out), by repeat (first | (with_reducible first | exact HK.out | apply Kept.alloc | apply Kept.drewN | apply Kept.drew | refine Kept.setCell ?_ (.inr ak.out) _ | refine Kept.setCell ?_ (.inr ao.out) _) | exact HK.out)⟩
 ·replace c3 := Bool.eq_false_iff.mpr c3; subst c3
  have H1 : (some (([] : List Int), ([] : List Int), false)) = some (r1, r2, r3) := by rw [if_neg (show ¬ (false = true) by decide)] at H; exact H
  clear H; have H := H1; clear H1; simp only [Option.some.injEq, Prod.mk.injEq] at H; obtain ⟨rfl, rfl, rfl⟩ := H; obtain ⟨aM, aN, aO⟩ := Kd.R_slice HO0_0.out; subst aO; obtain ⟨aP, aQ, aR⟩ := Kd.R_slice HO0_1.out; subst aR
  go_enter Try.func60, Try.ntmps60
  go_wp2_with (first | ((with_reducible refine gate_dst (N := 2) rfl ?_); refine box_event ?hg (N := 2) ?hd (cs := #[.slice aM l0_0.length aN, .slice aP l0_1.length aQ]) (t := 27) ?hr ?_; (case hd => rfl); (case hg => rfl); (case hr => first | (go_simp; done) | (go_simp; rfl)); intro ad hg bA hbox hb; have ae := xR HO0_0 hb; have af := xR HO0_1 hb; have ag := Aside0.mk (Kept.below (S := (fun k_ => P0_0_ k_ ∨ P0_1_ k_)) (by repeat (first | (with_reducible first | exact HK.out | apply Kept.alloc | apply Kept.drewN | apply Kept.drew) | exact HK.out)) hb); have ah := xS HB hb; have ai := Aside0.mk (hbox); have aj := Aside0.mk ((by rw [hg]; exact (by first | exact HK.out.1 | exact (show Kept w _ (fun k_ => P0_0_ k_ ∨ P0_1_ k_) from by repeat (first | (with_reducible first | exact HK.out | apply Kept.alloc | apply Kept.drewN | apply Kept.drew) | exact HK.out)).1) : w.heap.size ≤ ad)); have al := Aside0.mk ((by rw [hg]; exact (below_size (zS HB.out)) : w0.heap.size ≤ ad)); clear HO0_0; clear HO0_1; clear HK; clear HB; have HO0_0 := ae; have HO0_1 := af; have HK := ag; have HB := ah; have aa := ai; have ak := aj; have ap := al; clear ae af ag ah ai aj al; clear hb hbox hg) | ((with_reducible refine gate_dst (N := 4) rfl ?_); refine box_event ?hg (N := 4) ?hd (cs := #[.slice none 0 0, .slice none 0 0]) (t := 27) ?hr ?_; (case hd => rfl); (case hg => rfl); (case hr => first | (go_simp; done) | (go_simp; rfl)); intro ac hg aJ hbox hb; have ae := xR HO0_0 hb; have af := xR HO0_1 hb; have ag := xB aa hb; have ah := Aside0.mk (Kept.below (S := (fun k_ => P0_0_ k_ ∨ P0_1_ k_)) (by repeat (first | (with_reducible first | exact HK.out | apply Kept.alloc | apply Kept.drewN | apply Kept.drew | refine Kept.setCell ?_ (.inr ak.out) _) | exact HK.out)) hb); have ai := xS HB hb; have aj := Aside0.mk (hbox); have al := Aside0.mk ((by rw [hg]; exact (by first | exact HK.out.1 | exact (show Kept w _ (fun k_ => P0_0_ k_ ∨ P0_1_ k_) from by repeat (first | (with_reducible first | exact HK.out | apply Kept.alloc | apply Kept.drewN | apply Kept.drew | refine Kept.setCell ?_ (.inr ak.out) _) | exact HK.out)).1) : w.heap.size ≤ ac)); have au := Aside0.mk ((by rw [hg]; exact (below_size (zS HB.out)) : w0.heap.size ≤ ac)); have av := xN aa hg; have aw := xM aa hg; clear HO0_0; clear HO0_1; clear aa; clear HK; clear HB; have HO0_0 := ae; have HO0_1 := af; have aa := ag; have HK := ah; have HB := ai; have ab := aj; have ao := al; have aq := au; have am := av; have an := aw; clear ae af ag ah ai aj al au av aw; clear hb hbox hg; have bw := an.out; have bx := am.out; have bm : aJ.cell? ⟨ac, 0, none⟩ = some (.slice none 0 0) := b1 ab 0; have bn : aJ.cell? ⟨ac, 1, none⟩ = some (.slice none 0 0) := b1 ab 1; have bo := blk_frozen ab.out 0; have bp := blk_frozen ab.out 1))
  refine bodyPost_ret (results_ct rfl _ _ ac 27 #[.slice none 0 0, .slice none 0 0] (0, 0) _ rfl (by (with_reducible repeat (first | refine blk_drewN ?_ _ | refine blk_drew ?_ | refine blk_alloc ?_ _)); refine blk_put (cs := #[.slice none 0 0, .slice none 0 0]) ?_ 1 _ rfl; (with_reducible repeat (first | refine blk_drewN ?_ _ | refine blk_drew ?_ | refine blk_alloc ?_ _)); refine blk_put (cs := #[.slice none 0 0, .slice none 0 0]) ?_ 0 _ rfl; (with_reducible repeat (first | refine blk_drewN ?_ _ | refine blk_drew ?_ | refine blk_alloc ?_ _)); exact ab.out) Try.underlying27 rfl (by kernel_rfl)) rfl ?_; exact ⟨_, _, by first | rfl | (simp [errW_none, errW_some] <;> rfl) | (simp [*, errW_none, errW_some] <;> rfl), by first | exact Kd.R_nil _ _ _ _ _ | exact Kd.N_nil _ _ _ _ _ | exact Kd.V_nil _ _ _ _ _ | exact Kd.Q_nil _ _ _ _ _ | exact Kd.S_nil _ _ _ _ _, by first | exact Kd.R_nil _ _ _ _ _ | exact Kd.N_nil _ _ _ _ _ | exact Kd.V_nil _ _ _ _ _ | exact Kd.Q_nil _ _ _ _ _ | exact Kd.S_nil _ _ _ _ _, by repeat (first | (with_reducible first | exact HB.out | apply below_alloc | apply pw_below_drewN | apply below_drew1 | refine below_set ?_ ap.out | refine below_set ?_ aq.out) | exact HB.out), by repeat (first | (with_reducible first | exact HK.out | apply Kept.alloc | apply Kept.drewN | apply Kept.drew | refine Kept.setCell ?_ (.inr ak.out) _ | refine Kept.setCell ?_ (.inr ao.out) _) | exact HK.out)⟩

/-! ### slices_Grow_int_int: function 74 -/
def slices_Grow_int_int.f (l0 : List Int) (a1 : Int) : Option (List Int) := if l0.length = 0 ∧ 0 ≤ a1 ∧ a1 < 1099511627776 then some [] else none
set_option maxHeartbeats 8000000 in
set_option maxRecDepth 100000 in
theorem slices_Grow_int_int.core (n : Nat) (hn : n < 1099511627776) (w : World) :
    Calls Try.prog 74 #[.slice none 0 0, .int .i64 (n : Int)] w fun e w' => ∃ v0_ : Value, e = .returned (v0_) ∧ Kd.R (Kd.int .i64) 3 w' w.heap.size (fun _ => True) v0_ [] ∧ Below w.heap.size w w' := by
  have hneg : decide ((n : Int) < 0) = false := decide_eq_false (by omega)
  have hw0 : IntKind.i64.wrap (0 - 0) = 0 := by rw [IntKind.wrap_i64]; omega
  have hw1 : IntKind.i64.wrap ((n : Int) - 0) = n := by rw [IntKind.wrap_i64]; omega
  have hw2 : IntKind.i64.wrap (n : Int) = n := by rw [IntKind.wrap_i64]; omega
  by_cases h0 : n = 0
  · subst h0
    have hpos : decide ((0 : Int) < ((0 : Nat) : Int)) = false := decide_eq_false (by omega)
    go_enter Try.func74, Try.ntmps74
    go_wp2
    go_ret
    exact ⟨_, rfl, Kd.R_nil _ _ _ _ _, Below.refl _ _⟩
  · have hpos : decide ((0 : Int) < (n : Int)) = true := decide_eq_true (by omega)
    have hposN : decide (0 < n) = true := decide_eq_true (by omega)
    have hposT : 0 < n := by omega
    have hinf : (Try.prog.info? 3).map (fun i => (i.zero, i.size, i.bytes)) = some (some (.int .i64 0), 1, 8) := by kernel_rfl
    obtain ⟨i0, hi0, _, hsz0, _⟩ := info_parts hinf
    have hcut0 := cut_to (P := Try.prog) 22 3 .i64 Try.underlying22 hi0 none 0 0 0 (by omega) (by omega) (by omega)
    have HINF := Aside0.mk hinf
    have HN := Aside0.mk hn
    have HI := Aside0.mk hi0
    clear hinf hn h0 hi0 hsz0
    go_enter Try.func74, Try.ntmps74
    go_wp2_with (first
      | (at_builtin; refine Kd.R_append_zeros (Kd.int .i64) (w0 := w) w.heap.size rfl (.tmp 20) (.tmp 21) 22 3 3 (.int .i64 0) 8 rfl Try.underlying22 Try.underlying3 HINF.out rfl (by decide) (by omega) (.slice none 0 0) [] (0 : Int) (n : Int) (fun _ => True) rfl rfl ?aZ (fun _ _ => trivial) ?aO ?aN ?aB ?aS ?aL ?_; (case aZ => exact rfl); (case aO => exact Kd.R_nil _ _ _ _ _); (case aN => omega); (case aB => exact Below.refl _ _); (case aS => exact Nat.le_refl _); (case aL => have := HN.out; simp; omega); intro v1 w1 ho hb hg hat; obtain ⟨Ao, co, eo⟩ := Kd.R_slice ho; subst eo; have HO := Aside0.mk ho; have HB := Aside0.mk hb; have hcut1 := cut_to (P := Try.prog) 22 3 .i64 Try.underlying22 HI.out Ao ([] ++ List.replicate (n : Int).toNat (0 : Int)).length co 0 (by omega) (by omega) (Kd.R_reads' ho).2.1; clear ho hb hg hat))
    go_ret
    exact ⟨_, rfl, by have := Kd.R_take (m := 0) HO.out (by omega); simpa using this, HB.out⟩
theorem slices_Grow_int_int.calls (A0 : Option Addr) (c0 : Nat) (l0 : List Int) (a1 : Int) (r : List Int) (w : World) (hr0 : Kd.C (Kd.int .i64) w A0 l0.length l0) (hc0 : l0.length ≤ c0) (h : slices_Grow_int_int.f l0 a1 = some r) :
    Calls Try.prog 74 #[.slice none 0 0, .int .i64 a1] w fun e w' => ∃ v0_ : Value, e = .returned (v0_) ∧ Kd.R (Kd.int .i64) 3 w' w.heap.size (fun _ => True) v0_ r ∧ Below w.heap.size w w' := by
  unfold slices_Grow_int_int.f at h
  by_cases hl : l0.length = 0 ∧ 0 ≤ a1 ∧ a1 < 1099511627776
  · rw [if_pos hl] at h
    obtain rfl := Option.some.inj h
    have := slices_Grow_int_int.core a1.toNat (by omega) w
    rwa [show ((a1.toNat : Nat) : Int) = a1 by omega] at this
  · rw [if_neg hl] at h
    cases h


/-! ### slices_Concat_int_int: function 61 -/
mutual
def slices_Concat_int_int.l0 : Nat → List (List Int) → Int → List (List Int) → Int → Int → Option (List Int)
 | 0, _, _, _, _, _ => none
 | k + 1, x0, x3, x9, x10, x11 => if x11 < x10 then (if 0 ≤ x11 then (if x11 < (x9.length : Int) then (if (wrap64 (x3 + ((rd_L1 x9 x11).length : Int))) < 0 then (none) else (slices_Concat_int_int.l0 k x0 (wrap64 (x3 + ((rd_L1 x9 x11).length : Int))) x9 x10 (wrap64 (x11 + 1)))) else (none)) else (none)) else ((slices_Grow_int_int.f ([] : List Int) x3).bind fun t162 => (slices_Concat_int_int.l1 k t162 x0 (x0.length : Int) 0))
def slices_Concat_int_int.l1 : Nat → List Int → List (List Int) → Int → Int → Option (List Int)
 | 0, _, _, _, _ => none
 | k + 1, x6, x25, x26, x27 => if x27 < x26 then (if 0 ≤ x27 then (if x27 < (x25.length : Int) then (if x6.length + (rd_L1 x25 x27).length < 17592186044416 then (slices_Concat_int_int.l1 k (x6 ++ (rd_L1 x25 x27)) x25 x26 (wrap64 (x27 + 1))) else (none)) else (none)) else (none)) else (some x6)
end
def slices_Concat_int_int.f (k : Nat) (l0 : List (List Int)) : Option (List Int) := slices_Concat_int_int.l0 k l0 0 l0 (l0.length : Int) 0
theorem slices_Concat_int_int.mono_l : ∀ k, (∀ y0 y1 y2 y3 y4, LeO (slices_Concat_int_int.l0 k y0 y1 y2 y3 y4) (slices_Concat_int_int.l0 (k + 1) y0 y1 y2 y3 y4)) ∧ (∀ y0 y1 y2 y3, LeO (slices_Concat_int_int.l1 k y0 y1 y2 y3) (slices_Concat_int_int.l1 (k + 1) y0 y1 y2 y3))
 | 0 => ⟨fun _ _ _ _ _ r h => by simp [slices_Concat_int_int.l0] at h, fun _ _ _ _ r h => by simp [slices_Concat_int_int.l1] at h⟩
 | k + 1 => by
  obtain ⟨ih0, ih1⟩ := slices_Concat_int_int.mono_l k
  refine ⟨?_, ?_⟩
  ·intro y0 y1 y2 y3 y4
   unfold slices_Concat_int_int.l0
   repeat' first
   | (with_reducible exact ih0 _ _ _ _ _)
   | (with_reducible exact ih1 _ _ _ _)
   | (with_reducible exact LeO.refl _)
   | (with_reducible exact LeO.none _)
   | (with_reducible refine LeO.ite ?_ ?_)
   | (with_reducible refine LeO.bind ?_ (fun _ => ?_))
   | exact ih0 _ _ _ _ _
   | exact ih1 _ _ _ _
   | exact LeO.none _
   | refine LeO.ite ?_ ?_
   | refine LeO.bind ?_ (fun _ => ?_)
  ·intro y0 y1 y2 y3
   unfold slices_Concat_int_int.l1
   repeat' first
   | (with_reducible exact ih0 _ _ _ _ _)
   | (with_reducible exact ih1 _ _ _ _)
   | (with_reducible exact LeO.refl _)
   | (with_reducible exact LeO.none _)
   | (with_reducible refine LeO.ite ?_ ?_)
   | (with_reducible refine LeO.bind ?_ (fun _ => ?_))
   | exact ih0 _ _ _ _ _
   | exact ih1 _ _ _ _
   | exact LeO.none _
   | refine LeO.ite ?_ ?_
   | refine LeO.bind ?_ (fun _ => ?_)
theorem slices_Concat_int_int.mono : ∀ a0 k, LeO (slices_Concat_int_int.f k a0) (slices_Concat_int_int.f (k + 1) a0) := by
 intro a0 k
 obtain ⟨ih0, ih1⟩ := slices_Concat_int_int.mono_l k
 unfold slices_Concat_int_int.f
 repeat' first
   | (with_reducible exact ih0 _ _ _ _ _)
   | (with_reducible exact ih1 _ _ _ _)
   | (with_reducible exact LeO.refl _)
   | (with_reducible exact LeO.none _)
   | (with_reducible refine LeO.ite ?_ ?_)
   | (with_reducible refine LeO.bind ?_ (fun _ => ?_))
   | exact ih0 _ _ _ _ _
   | exact ih1 _ _ _ _
   | exact LeO.none _
   | refine LeO.ite ?_ ?_
   | refine LeO.bind ?_ (fun _ => ?_)
open Go.Proofs.Ythkljpbddddhdaa.Short2 in
set_option maxHeartbeats 8000000 in
set_option maxRecDepth 100000 in
theorem slices_Concat_int_int.calls (k : Nat) (A0 : Option Addr) (c0 : Nat) (l0 : List (List Int)) (r : List Int) (w : World) (hr0 : Kd.C (Kd.slice 3 (Kd.int .i64)) w A0 l0.length l0) (hc0 : l0.length ≤ c0) (h : slices_Concat_int_int.f k l0 = some r) :
  Calls Try.prog 61 #[.slice A0 l0.length c0] w fun e w' => ∃ v0_ : Value, e = .returned (v0_) ∧ Kd.R (Kd.int .i64) 3 w' w.heap.size (fun _ => True) v0_ r ∧ Below w.heap.size w w' := by
 have HR0 := Aside0.mk hr0; have HC0 := Aside0.mk hc0; clear hr0 hc0; have HB := Aside0.mk (Below.refl w.heap.size w); have H : (slices_Concat_int_int.l0 k l0 0 l0 (l0.length : Int) 0) = some r := h; clear h; have H' := Aside0.mk H; clear H
 go_enter Try.func61, Try.ntmps61
 go_wp2
 go_loopg [3, 11] k (fun kq v3 az w' => ∃ (x3_1 : Int) (ab : Int), v3 = .int .i64 x3_1 ∧ az = .int .i64 ab ∧ Aside0 (slices_Concat_int_int.l0 kq l0 x3_1 l0 (l0.length : Int) ab = some r) ∧ Aside0 (kq ≤ k) ∧ Aside0 (Below w.heap.size w w'))
 case atStart => exact ⟨(0), (0), (by first | rfl | (simp; done) | (simp [*]; done) | (rw [Int.tmod_eq_emod_of_nonneg (Int.natCast_nonneg _)]; done)), (by first | rfl | (simp; done) | (simp [*]; done) | (rw [Int.tmod_eq_emod_of_nonneg (Int.natCast_nonneg _)]; done)), H', ⟨Nat.le_refl _⟩, ⟨zS HB.out⟩⟩
 case round =>
  clear H'; obtain ⟨x3_1, ab, rfl, rfl, HA, HK1, HB⟩ := hrel
  cases gk with
  | zero => exact absurd HA.out (by simp [slices_Concat_int_int.l0])
  | succ k1 =>
   have H := HA.out; clear HA; simp only [slices_Concat_int_int.l0] at H
   by_cases c2 : ab < (l0.length : Int)
   ·rw [if_pos c2] at H; have al : decide (ab < (l0.length : Int)) = true := decide_eq_true c2; clear c2
    by_cases c3 : 0 ≤ ab
    ·rw [if_pos c3] at H; have av : decide (0 ≤ ab) = true := decide_eq_true c3; clear c3
     by_cases c4 : ab < (l0.length : Int)
     ·rw [if_pos c4] at H; have aw : decide (ab < (l0.length : Int)) = true := decide_eq_true c4; clear c4
      by_cases c5 : (wrap64 (x3_1 + ((rd_L1 l0 ab).length : Int))) < 0
      ·rw [if_pos c5] at H; exact absurd H (by simp)
      ·rw [if_neg c5] at H; have ax : decide ((wrap64 (x3_1 + ((rd_L1 l0 ab).length : Int))) < 0) = false := decide_eq_false c5; clear c5; have H' := Aside0.mk H; clear H; have af : 0 ≤ (ab : Int) := of_decide_eq_true (by first | (with_reducible assumption) | assumption); have q161 : ab < (l0.length : Int) := of_decide_eq_true (by first | (with_reducible assumption) | assumption); obtain ⟨ad161, A161_0, c161_0, e161, ac, hl161_0, hi161_0⟩ := at_L1 HR0.out ab af q161
       cases e161
       replace ac := (HB.out.cell (World.block_lt_of_cell? w _ ac)).trans ac; have HR161_0 := Aside0.mk hi161_0; have HC161_0 := Aside0.mk hl161_0; clear hi161_0 hl161_0; replace af := eq_true af; replace q161 := eq_true q161
       go_wp2
       go_roundg k1
       case measure => have := HK1.out; omega
       case rel => exact ⟨(wrap64 (x3_1 + ((rd_L1 l0 ab).length : Int))), (wrap64 (ab + 1)), (by first | rfl | (simp; done) | (simp [*]; done) | (rw [Int.tmod_eq_emod_of_nonneg (Int.natCast_nonneg _)]; done)), (by first | rfl | (simp; done) | (simp [*]; done) | (rw [Int.tmod_eq_emod_of_nonneg (Int.natCast_nonneg _)]; done)), H', ⟨by have := HK1.out; omega⟩, ⟨zS HB.out⟩⟩
     ·rw [if_neg c4] at H; exact absurd H (by simp)
    ·rw [if_neg c3] at H; exact absurd H (by simp)
   ·rw [if_neg c2] at H; have al : decide (ab < (l0.length : Int)) = false := decide_eq_false c2; clear c2; replace H := Option.bind_eq_some_iff.mp H; obtain ⟨ag, aq, H⟩ := H; replace H : (slices_Concat_int_int.l1 k1 ag l0 (l0.length : Int) 0) = some r := H; have A6 := Aside0.mk aq; clear aq; have H' := Aside0.mk H; clear H
    go_wp2_with (first | ((with_reducible refine gate_callee (f := 74) rfl ?_); refine goesL_ (some 24) rfl rfl Try.func74 (by kernel_rfl) rfl #[.slice none 0 0, .int .i64 x3_1] rfl (by (try simp only [m3]); first | done | rfl | (simp only [d2]; rfl)) ?_; (refine (slices_Grow_int_int.calls none 0 ([] : List Int) x3_1 ag _ ?side1 ?side2 A6.out).mono ?_); (case side1 => exact Kd.C_nil _ _); (case side2 => exact Nat.le_refl _); rintro e w7 ⟨aD, rfl, ho0, hb⟩; refine ⟨_, rfl, ?_⟩; have an := Aside0.mk (Kd.R_lower ho0 (below_size (zS HB.out))); replace HB := xS HB hb; (try clear hb); (try clear hb2); (try clear hk); (try clear hi); (try clear ho0)))
    go_loopg [6, 27] k1 (fun kq v6 aA w' => ∃ (x6_2 : List Int) (aa : Int), aA = .int .i64 aa ∧ Aside0 (slices_Concat_int_int.l1 kq x6_2 l0 (l0.length : Int) aa = some r) ∧ Aside0 (kq ≤ k1) ∧ Aside0 (Kd.R (Kd.int .i64) 3 w' w.heap.size (fun _ => True) v6 x6_2) ∧ Aside0 (Below w.heap.size w w'))
    case atStart => exact ⟨(ag), (0), (by first | rfl | (simp; done) | (simp [*]; done) | (rw [Int.tmod_eq_emod_of_nonneg (Int.natCast_nonneg _)]; done)), H', ⟨Nat.le_refl _⟩, ⟨zR an.out⟩, ⟨zS HB.out⟩⟩
    case round =>
     clear H'
     try clear c1
     try clear p1
     try clear q1
     try clear hx1
     try clear c2
     try clear al
     try clear p2
     try clear c3
     try clear av
     try clear c4
     try clear aw
     try clear c5
     try clear ax
     try clear c6
     try clear p6
     try clear c7
     try clear ac
     try clear af
     try clear q161
     obtain ⟨x6_2, aa, rfl, HA, HK2, ah, HB⟩ := hrel
     cases gk with
     | zero => exact absurd HA.out (by simp [slices_Concat_int_int.l1])
     | succ k2 =>
      have H := HA.out; clear HA; simp only [slices_Concat_int_int.l1] at H
      by_cases c8 : aa < (l0.length : Int)
      ·rw [if_pos c8] at H; have ay : decide (aa < (l0.length : Int)) = true := decide_eq_true c8; clear c8
       by_cases c9 : 0 ≤ aa
       ·rw [if_pos c9] at H; have aE : decide (0 ≤ aa) = true := decide_eq_true c9; clear c9
        by_cases aj : aa < (l0.length : Int)
        ·rw [if_pos aj] at H; have aC : decide (aa < (l0.length : Int)) = true := decide_eq_true aj; clear aj
         by_cases ak : x6_2.length + (rd_L1 l0 aa).length < 17592186044416
         ·rw [if_pos ak] at H; have LMc11 := Aside0.mk ak; clear ak; obtain ⟨am, ad⟩ : ∃ y_ : List Int, y_ = (x6_2 ++ (rd_L1 l0 aa)) := ⟨_, rfl⟩
          replace H : (slices_Concat_int_int.l1 k2 am l0 (l0.length : Int) (wrap64 (aa + 1))) = some r := by first | (rw [ad]; with_reducible exact H) | (have H2_ := (Option.bind_some _ _).symm.trans H; rw [ad]; with_reducible exact H2_) | (have H2_ := (Option.bind_some _ _).symm.trans H; with_reducible exact H2_) | with_reducible exact H | (rw [ad]; exact H) | exact H
          have ao := Aside0.mk ad; clear ad; have H' := Aside0.mk H; clear H; have ai : 0 ≤ (aa : Int) := of_decide_eq_true (by first | (with_reducible assumption) | assumption); have q165 : aa < (l0.length : Int) := of_decide_eq_true (by first | (with_reducible assumption) | assumption); obtain ⟨ad165, A165_0, c165_0, e165, ae, hl165_0, hi165_0⟩ := at_L1 HR0.out aa ai q165
          cases e165
          replace ae := (HB.out.cell (World.block_lt_of_cell? w _ ae)).trans ae; have HR165_0 := Aside0.mk hi165_0; have HC165_0 := Aside0.mk hl165_0; clear hi165_0 hl165_0; replace ai := eq_true ai; replace q165 := eq_true q165
          go_wp2_with (first | ((with_reducible refine gate_builtin (b := .append) (xs := #[.tmp 31, .tmp 32]) rfl ?_); at_builtin; refine Kd.R_append_rows (Kd.int .i64) (w0 := w) w.heap.size rfl (.tmp 31) (.tmp 32) 22 3 (.int .i64 0) 8 rfl Try.underlying22 info3 rfl (by decide) (by omega) u6 x6_2 (rd_L1 l0 aa) _ _ _ (fun _ => True) (fun _ => False) rfl rfl ?aO ?aR (fun _ _ h => h) (fun _ h => h.elim) ?aF ?aB ?aS ?aL ?_; (case aR => repeat (first | exact (Kd.C_below HR165_0.out HB.out) | (with_reducible refine Kd.C_alloc ?_ _) | (with_reducible refine Kd.C_drewN ?_ _) | (with_reducible refine Kd.C_drew ?_))); (case aB => exact (zS HB.out)); (case aF => exact (fun _ _ => trivial)); (case aO => exact (zR ah.out)); (case aS => exact (below_size (zS HB.out))); (case aL => have := LMc11.out; omega); intro aG aH ho hb hg hat; rw [← ao.out] at ho; have ar := Aside0.mk (hb); have au := Aside0.mk (ho); clear HB; clear ah; have HB := ar; have ap := au; clear ar au; clear ho hb hg hat))
          go_roundg k2
          case measure => have := HK1.out; have := HK2.out; omega
          case rel => exact ⟨(am), (wrap64 (aa + 1)), (by first | rfl | (simp; done) | (simp [*]; done) | (rw [Int.tmod_eq_emod_of_nonneg (Int.natCast_nonneg _)]; done)), H', ⟨by have := HK1.out; have := HK2.out; omega⟩, ⟨zR ap.out⟩, ⟨zS HB.out⟩⟩
         ·rw [if_neg ak] at H; exact absurd H (by simp)
        ·rw [if_neg aj] at H; exact absurd H (by simp)
       ·rw [if_neg c9] at H; exact absurd H (by simp)
      ·rw [if_neg c8] at H; have ay : decide (aa < (l0.length : Int)) = false := decide_eq_false c8; clear c8; obtain rfl := Option.some.inj H
       go_wp2
       go_ret; exact ⟨_, by first | rfl | (simp [errW_none, errW_some] <;> rfl) | (simp [*, errW_none, errW_some] <;> rfl), by (with_reducible repeat (first | apply Kd.R_alloc | apply Kd.R_drewN | apply Kd.R_drew)); exact ah.out, by repeat (first | (with_reducible first | exact HB.out | apply below_alloc | apply pw_below_drewN | apply below_drew1) | exact HB.out)⟩

/-! ### slices_Clone_int_int: function 62 -/
def slices_Clone_int_int.f (l0 : List Int) : Option (List Int) := if l0.length < 17592186044416 then some l0 else none
set_option maxHeartbeats 8000000 in
set_option maxRecDepth 100000 in
theorem slices_Clone_int_int.calls (A0 : Option Addr) (c0 : Nat) (l0 : List Int) (r : List Int) (w : World) (hr0 : Kd.C (Kd.int .i64) w A0 l0.length l0) (hc0 : l0.length ≤ c0) (h : slices_Clone_int_int.f l0 = some r) :
    Calls Try.prog 62 #[.slice A0 l0.length c0] w fun e w' => ∃ v0_ : Value, e = .returned (v0_) ∧ Kd.R (Kd.int .i64) 3 w' w.heap.size (fun _ => True) v0_ r ∧ Below w.heap.size w w' := by
  unfold slices_Clone_int_int.f at h
  by_cases hl : l0.length < 17592186044416
  · rw [if_pos hl] at h
    obtain rfl := Option.some.inj h
    have hinf : (Try.prog.info? 3).map (fun i => (i.zero, i.size, i.bytes)) = some (some (.int .i64 0), 1, 8) := by kernel_rfl
    have HINF := Aside0.mk hinf
    have HL := Aside0.mk hl
    have HR0 := Aside0.mk hr0
    have HC0 := Aside0.mk hc0
    clear hl h hr0 hc0 hinf
    have heq := fun (w : World) (a : Option Addr) (n c : Nat) => Lib.run_eql_slice_nil (P := Try.prog) w 22 3 a n c 0 0 Try.underlying22
    rcases A0 with _ | ad
    · have hl0 : l0 = [] := by
        rcases Nat.eq_zero_or_pos l0.length with h0 | h0
        · exact List.eq_nil_of_length_eq_zero h0
        · obtain ⟨ad, he, _⟩ := HR0.out.2.2 h0
          cases he
      subst hl0
      go_enter Try.func62, Try.ntmps62
      go_wp2
      go_ret
      exact ⟨_, rfl, Kd.R_nil _ _ _ _ _, Below.refl _ _⟩
    · go_enter Try.func62, Try.ntmps62
      go_wp2_with (first
        | ((with_reducible refine gate_dst (N := 5) rfl ?_); refine Kd.R_lit (Kd.int .i64) _ 3 ?hg (N := 5) ?hd (xs := ([] : List Int)) (inner := []) (ok := fun _ => True) (okp := fun _ => True) ?hr ?hp (fun _ hk => hk) trivial (Below.refl _ _) (Nat.le_refl _) (by simp) ?_; (case hd => rfl); (case hg => rfl); (case hr => first | (go_simp; done) | (go_simp; rfl)); (case hp => exact (Reps.none _ _)); intro v1 w1 ho1 hb1 _ _; have aa := Aside0.mk ho1; have HB1 := Aside0.mk hb1; clear ho1 hb1)
        | (at_builtin; refine Kd.R_append_rows (Kd.int .i64) (w0 := w) w.heap.size rfl (.tmp 5) (.tmp 6) 22 3 (.int .i64 0) 8 rfl Try.underlying22 HINF.out rfl (by decide) (by omega) v1 [] l0 _ _ _ (fun _ => True) (fun _ => False) rfl rfl ?aO ?aR (fun _ _ h => h) (fun _ h => h.elim) ?aF ?aB ?aS ?aL ?_; (case aR => exact Kd.C_below HR0.out HB1.out); (case aB => exact HB1.out); (case aF => exact (fun _ _ => trivial)); (case aO => exact aa.out); (case aS => exact HB1.out.size); (case aL => have := HL.out; simp; omega); intro v2 w2 ho hb hg hat; have ab := Aside0.mk ho; have HB2 := Aside0.mk hb; clear ho hb hg hat))
      go_ret
      exact ⟨_, rfl, ab.out, HB2.out⟩
  · rw [if_neg hl] at h
    cases h

section
open Go.Proofs.Ythkljpbddddhdaa.Short2.T
abbrev impl_WordJoin.bl0 : Array Bool := #[f, f, f, f, f, f, f, f, f, f, f, f, f, f, f, f]
abbrev impl_WordJoin.bl1 : Array Bool := #[t, f, f, f, f, f, f, f, f, f, f, f, f, f, f, f]
abbrev impl_WordJoin.bl2 : Array Bool := #[t, t, f, f, f, f, f, f, f, f, f, f, f, f, f, f]
abbrev impl_WordJoin.bl3 : Array Bool := #[t, t, f, f, f, t, f, f, f, f, f, f, f, f, f, f]
abbrev impl_WordJoin.bl4 : Array Bool := #[t, t, t, f, f, t, f, f, f, f, f, f, f, f, f, f]
abbrev impl_WordJoin.bl5 : Array Bool := #[t, t, t, f, f, t, t, f, f, f, f, f, f, f, f, f]
abbrev impl_WordJoin.bl6 : Array Bool := #[t, t, t, f, f, t, t, f, f, t, f, f, f, f, f, f]
abbrev impl_WordJoin.bl7 : Array Bool := #[t, t, t, t, f, t, t, f, f, t, f, f, f, f, f, f]
abbrev impl_WordJoin.bl8 : Array Bool := #[t, t, t, t, t, t, t, f, f, t, f, f, f, f, f, f]
abbrev impl_WordJoin.bl9 : Array Bool := #[t, t, t, t, t, t, t, t, f, t, f, f, f, f, f, f]
abbrev impl_WordJoin.bl10 : Array Bool := #[t, t, t, t, t, t, t, t, t, t, f, f, f, f, f, f]
abbrev impl_WordJoin.bl11 : Array Bool := #[t, t, t, t, t, t, t, t, t, t, t, f, f, f, f, f]
abbrev impl_WordJoin.bl12 : Array Bool := #[t, t, t, t, t, t, t, t, t, t, t, t, f, f, f, f]
abbrev impl_WordJoin.bl13 : Array Bool := #[t, t, t, t, t, t, t, t, t, t, t, t, t, f, f, f]
abbrev impl_WordJoin.bl14 : Array Bool := #[t, t, t, t, t, t, t, t, t, t, t, t, t, t, f, f]
abbrev impl_WordJoin.bl15 : Array Bool := #[t, t, t, t, t, t, t, t, t, t, t, t, t, t, t, f]
abbrev impl_WordJoin.bl16 : Array Bool := #[t, t, t, t, t, t, t, t, t, t, t, t, t, t, t, t]
end
/-! ### impl_WordJoin: function 33 -/
def impl_WordJoin.f (k : Nat) (l0 : List Int) (l1_0 : List Int) (l1_1 : List Int) : Option (List Int × List Int × Bool) := (slices_Concat_int_int.f k (([l0, l1_0] : List (List Int)))).bind fun t174 => ((slices_Clone_int_int.f l1_1).bind fun t177 => ((impl_isRight.f k l1_0 l1_1).bind fun t180 => ((impl_rightOr.f k t174 t177 t180).bind fun bt181 => (some (bt181.1, bt181.2.1, bt181.2.2)))))
theorem impl_WordJoin.mono : ∀ a0 a1 a2 k, LeO (impl_WordJoin.f k a0 a1 a2) (impl_WordJoin.f (k + 1) a0 a1 a2) := by
 intro a0 a1 a2 k
 unfold impl_WordJoin.f
 repeat' first
   | (with_reducible exact impl_isRight.mono _ _ _)
   | (with_reducible exact impl_rightOr.mono _ _ _ _)
   | (with_reducible exact slices_Concat_int_int.mono _ _)
   | (with_reducible exact LeO.refl _)
   | (with_reducible exact LeO.none _)
   | (with_reducible refine LeO.ite ?_ ?_)
   | (with_reducible refine LeO.bind ?_ (fun _ => ?_))
   | exact impl_isRight.mono _ _ _
   | exact impl_rightOr.mono _ _ _ _
   | exact slices_Concat_int_int.mono _ _
   | exact LeO.none _
   | refine LeO.ite ?_ ?_
   | refine LeO.bind ?_ (fun _ => ?_)
def impl_WordJoin.T1 : Bool × List (List Nat × List Nat) := (true, [([], []), ([], []), ([1], [1]), ([0, 2], [0, 2]), ([3], [3]), ([], []), ([5], [5]), ([6, 4], [6]), ([4, 7], [4, 7]), ([], []), ([9, 7], [9]), ([8, 10, 10], [8, 10]), ([11], [11]), ([11], [11]), ([12, 11, 0, 1, 2, 3, 4, 5, 6, 7, 8, 9, 10, 11, 12, 13], [12]), ([13, 14, 0, 1, 2, 3, 4, 5, 6, 7, 8, 9, 10, 11, 12, 13, 14], [13])])
def impl_WordJoin.B1 : List Nat := [0, 0, 2, 7, 15, 0, 32, 127, 255, 0, 767, 2047, 4095, 4095, 16383, 32767]
theorem impl_WordJoin.tab1 : rtab .any (opsOf Try.f33 1) = impl_WordJoin.T1 := by kernel_rfl
theorem impl_WordJoin.bits1 : waitsOk impl_WordJoin.T1.2 impl_WordJoin.B1 = true := by kernel_rfl
open Go.Proofs.Ythkljpbddddhdaa.Short2 in
set_option maxHeartbeats 8000000 in
set_option maxRecDepth 100000 in
theorem impl_WordJoin.calls (k : Nat) (P0_ : Nat → Prop) (A0 : Option Addr) (c0 : Nat) (l0 : List Int) (P1_0_ : Nat → Prop) (A1_0 : Option Addr) (c1_0 : Nat) (l1_0 : List Int) (A1_1 : Option Addr) (c1_1 : Nat) (l1_1 : List Int) (r1 : List Int) (r2 : List Int) (r3 : Bool) (w : World) (hs0 : Kd.V (Kd.int .i64) 3 w w.heap.size (fun k_ => P0_ k_) (.slice A0 l0.length c0) l0) (hs1_0 : Kd.V (Kd.int .i64) 3 w w.heap.size (fun k_ => P1_0_ k_) (.slice A1_0 l1_0.length c1_0) l1_0) (hr1_1 : Kd.C (Kd.int .i64) w A1_1 l1_1.length l1_1) (hc1_1 : l1_1.length ≤ c1_1) (h : impl_WordJoin.f k l0 l1_0 l1_1 = some (r1, r2, r3)) :
  Calls Try.prog 33 #[.slice A0 l0.length c0, .agg #[.slice A1_0 l1_0.length c1_0, .slice A1_1 l1_1.length c1_1]] w fun e w' => ∃ v0_ v1_ : Value, e = .returned (.tuple #[.agg #[v0_, v1_], .bool r3]) ∧ Kd.R (Kd.int .i64) 3 w' w.heap.size (fun k_ => (w.heap.size ≤ k_) ∧ some k_ ≠ (v1_ : Value).ownBlock) v0_ r1 ∧ Kd.R (Kd.int .i64) 3 w' w.heap.size (fun k_ => (w.heap.size ≤ k_) ∧ some k_ ≠ (v0_ : Value).ownBlock) v1_ r2 ∧ Below w.heap.size w w' := by
 have hu27 := Try.underlying27; have ag := Aside0.mk (show Kd.V (Kd.int .i64) 3 w w.heap.size (fun k_ => ((P0_ k_ ∨ P1_0_ k_) ∨ w.heap.size ≤ k_)) (.slice A0 l0.length c0) l0 from Kd.V_mono hs0 (fun k_ hk => .inl (.inl hk))); have HO1_0 := Aside0.mk (show Kd.V (Kd.int .i64) 3 w w.heap.size (fun k_ => ((P0_ k_ ∨ P1_0_ k_) ∨ w.heap.size ≤ k_)) (.slice A1_0 l1_0.length c1_0) l1_0 from Kd.V_mono hs1_0 (fun k_ hk => .inl (.inr hk))); have HR1_1 := Aside0.mk hr1_1; have HC1_1 := Aside0.mk hc1_1; clear hr1_1 hc1_1; have HB := Aside0.mk (Below.refl w.heap.size w); have H : ((slices_Concat_int_int.f k (([l0, l1_0] : List (List Int)))).bind fun ak => ((slices_Clone_int_int.f l1_1).bind fun ai => ((impl_isRight.f k l1_0 l1_1).bind fun al => ((impl_rightOr.f k ak ai al).bind fun bt181 => (some (bt181.1, bt181.2.1, bt181.2.2)))))) = some (r1, r2, r3) := h; clear h; obtain ⟨ap, am⟩ : ∃ y_ : List (List Int), y_ = (([l0, l1_0] : List (List Int))) := ⟨_, rfl⟩
 replace H : ((slices_Concat_int_int.f k ap).bind fun ak => ((slices_Clone_int_int.f l1_1).bind fun ai => ((impl_isRight.f k l1_0 l1_1).bind fun al => ((impl_rightOr.f k ak ai al).bind fun bt181 => (some (bt181.1, bt181.2.1, bt181.2.2)))))) = some (r1, r2, r3) := by first | (rw [am]; with_reducible exact H) | (have H2_ := (Option.bind_some _ _).symm.trans H; rw [am]; with_reducible exact H2_) | (have H2_ := (Option.bind_some _ _).symm.trans H; with_reducible exact H2_) | with_reducible exact H | (rw [am]; exact H) | exact H
 have aF := Aside0.mk am; clear am; replace H := Option.bind_eq_some_iff.mp H; obtain ⟨ak, aQ, H⟩ := H; replace H : ((slices_Clone_int_int.f l1_1).bind fun ai => ((impl_isRight.f k l1_0 l1_1).bind fun al => ((impl_rightOr.f k ak ai al).bind fun bt181 => (some (bt181.1, bt181.2.1, bt181.2.2))))) = some (r1, r2, r3) := H; have A3 := Aside0.mk aQ; clear aQ; replace H := Option.bind_eq_some_iff.mp H; obtain ⟨ai, aR, H⟩ := H; replace H : ((impl_isRight.f k l1_0 l1_1).bind fun al => ((impl_rightOr.f k ak ai al).bind fun bt181 => (some (bt181.1, bt181.2.1, bt181.2.2)))) = some (r1, r2, r3) := H; have A4 := Aside0.mk aR; clear aR; replace H := Option.bind_eq_some_iff.mp H; obtain ⟨al, aS, H⟩ := H; replace H : ((impl_rightOr.f k ak ai al).bind fun bt181 => (some (bt181.1, bt181.2.1, bt181.2.2))) = some (r1, r2, r3) := H; have A5 := Aside0.mk aS; clear aS; replace H := Option.bind_eq_some_iff.mp H; obtain ⟨⟨an, aq, aK⟩, aT, H⟩ := H; replace H : (some (an, aq, aK)) = some (r1, r2, r3) := H; have A6 := Aside0.mk aT; clear aT; simp only [Option.some.injEq, Prod.mk.injEq] at H; obtain ⟨rfl, rfl, rfl⟩ := H
 go_enter Try.func33, Try.ntmps33
 try go_wp2_with (first | ((with_reducible refine gate_dst (N := 3) rfl ?_); refine box_event ?hg (N := 3) ?hd (cs := #[.slice A1_0 l1_0.length c1_0, .slice A1_1 l1_1.length c1_1]) (t := 27) ?hr ?_; (case hd => rfl); (case hg => rfl); (case hr => first | (go_simp; done) | (go_simp; rfl)); intro ad hg w7 hbox hb; replace ag := Aside0.mk (Kd.V_below (Kd.V_elderB (by (with_reducible repeat (first | apply Kd.V_alloc | apply Kd.V_drewN | apply Kd.V_drew)); exact ag.out) ad (Nat.le_of_eq hg.symm)) hb); replace HO1_0 := Aside0.mk (Kd.V_below (Kd.V_elderB (by (with_reducible repeat (first | apply Kd.V_alloc | apply Kd.V_drewN | apply Kd.V_drew)); exact HO1_0.out) ad (Nat.le_of_eq hg.symm)) hb); have aa := Aside0.mk (hbox); have bh := xG HB hg; have aG := xG HB hg; replace HB := xS HB hb; clear hb hbox hg) | ((with_reducible refine gate_dst (N := 4) rfl ?_); refine box_event ?hg (N := 4) ?hd (cs := #[.slice none 0 0, .slice none 0 0]) (t := 27) ?hr ?_; (case hd => rfl); (case hg => rfl); (case hr => first | (go_simp; done) | (go_simp; rfl)); intro ab hg w8 hbox hb; replace ag := Aside0.mk (Kd.V_below (Kd.V_elderB (by (with_reducible repeat (first | apply Kd.V_alloc | apply Kd.V_drewN | apply Kd.V_drew)); exact ag.out) ab (Nat.le_of_eq hg.symm)) hb); replace HO1_0 := Aside0.mk (Kd.V_below (Kd.V_elderB (by (with_reducible repeat (first | apply Kd.V_alloc | apply Kd.V_drewN | apply Kd.V_drew)); exact HO1_0.out) ab (Nat.le_of_eq hg.symm)) hb); have ac := Aside0.mk (hbox); have bi := xG HB hg; have aH := xG HB hg; replace HB := xS HB hb; have ah := xN aa hg; have ao := xM aa hg; replace aa := xB aa hb; clear hb hbox hg))
 replace ag := Aside0.mk (Kd.V_drew ag.out); replace HO1_0 := Aside0.mk (Kd.V_drew HO1_0.out); replace aa := Aside0.mk (blk_drew aa.out); replace ac := Aside0.mk (blk_drew ac.out); replace HB := Aside0.mk (below_drew1 HB.out); refine start_ (n := 16) (S := fun w' => w'.cell? ⟨ad, 0, none⟩ = some (.slice A1_0 l1_0.length c1_0) ∧ w'.cell? ⟨ad, 1, none⟩ = some (.slice A1_1 l1_1.length c1_1)) (ds := []) bl0 (by kernel_rfl) rfl rfl ⟨b1 aa 0, b1 aa 1⟩ (fun hHeld => ?_); refine with_tabW impl_WordJoin.tab1 impl_WordJoin.bits1 (fun HT_ HW_ => ?_); generalize w8.drew = w9 at ag HO1_0 aa ac HB hHeld ⊢
 refine pu 0 (some 6) bl1 HT_ ?_ rfl rfl (.inl ⟨by rfl, ?_⟩) ?_ ?_ ?_; rotate_left; (intro w'; go_simp; with_reducible rfl); rotate_left; (simp only [Act.put, q5]; rfl)
 refine pu 1 (some 7) bl2 HT_ ?_ rfl rfl (.inl ⟨by rfl, ?_⟩) ?_ ?_ ?_; rotate_left; (intro w'; go_simp; with_reducible rfl); rotate_left; (simp only [Act.put, q5]; rfl)
 refine pu 5 (some 11) bl3 HT_ ?_ rfl rfl (.inl ⟨by rfl, ?_⟩) ?_ ?_ ?_; rotate_left; (intro w'; go_simp; with_reducible rfl); rotate_left; (simp only [Act.put, q5]; rfl)
 refine take_ (i := 2) (N := some 8) (v := ?_) (a' := ?_) bl4 rfl rfl (take_ofW HT_.out HW_.out (by kernel_rfl)) (fun _ _ _ h => h) (Or.inl ⟨by rfl, ?_⟩) hHeld ?_ ?_; rotate_left
 ·rintro w' ⟨s0, s1⟩; go_simp; with_reducible rfl
 rotate_left
 ·simp only [Act.put, q5]; rfl
 refine take_ (i := 6) (N := some 12) (v := ?_) (a' := ?_) bl5 rfl rfl (take_ofW HT_.out HW_.out (by kernel_rfl)) (fun _ _ _ h => h) (Or.inl ⟨by rfl, ?_⟩) hHeld ?_ ?_; rotate_left
 ·rintro w' ⟨s0, s1⟩; go_simp; with_reducible rfl
 rotate_left
 ·simp only [Act.put, q5]; rfl
 refine take_ (i := 9) (N := some 15) (v := ?_) (a' := ?_) bl6 rfl rfl (take_ofW HT_.out HW_.out (by kernel_rfl)) (fun _ _ _ h => h) (Or.inl ⟨by rfl, ?_⟩) hHeld ?_ ?_; rotate_left
 ·rintro w' ⟨s0, s1⟩; go_simp; with_reducible rfl
 rotate_left
 ·simp only [Act.put, q5]; rfl
 refine one_ (i := 3) (N := some 9) bl7 rfl rfl (one_of HT_.out (by kernel_rfl)) (by decide) (fun K hK => ?_)
 refine Kd.N_lit_step (Kd.slice 3 (Kd.int .i64)) _ 22 ?hg (N' := 9) ?hd (xs := ([l0, l1_0] : List (List Int))) (inner := [.slice A0 l0.length c0, .slice A1_0 l1_0.length c1_0]) (ok := (fun k_ => ((P0_ k_ ∨ P1_0_ k_) ∨ w.heap.size ≤ k_) ∧ k_ ≠ ad ∧ k_ ≠ ab)) (okp := (fun k_ => ((P0_ k_ ∨ P1_0_ k_) ∨ w.heap.size ≤ k_) ∧ k_ ≠ ad ∧ k_ ≠ ab)) ?hr ?hp (fun _ hk => hk) ((show ∀ k_, w9.heap.size ≤ k_ → (fun k_ => ((P0_ k_ ∨ P1_0_ k_) ∨ w.heap.size ≤ k_) ∧ k_ ≠ ad ∧ k_ ≠ ab) k_ from fun k_ hk => ⟨(.inr (Nat.le_trans (below_size (zS HB.out)) hk)), Kd.freshB (g := ad) (o := .cells #[.slice A1_0 l1_0.length c1_0, .slice A1_1 l1_1.length c1_1] 27 (0, 0)) (zB aa.out) k_ hk, Kd.freshB (g := ab) (o := .cells #[.slice none 0 0, .slice none 0 0] 27 (0, 0)) (zB ac.out) k_ hk⟩) _ (Nat.le_refl _)) (Below.refl _ _) (Nat.le_refl _) (by simp) ?_; (case hd => rfl); (case hg => rfl); (case hr => first | (go_simp; done) | (go_simp; rfl)); (case hp => exact (Reps.one (show Kd.FK (Kd.slice 3 (Kd.int .i64)) _ _ l0 [.slice A0 l0.length c0] from (Kd.FK_slice_mk (Kd.V_reads' (Kd.V_mono (ok' := (fun k_ => ((P0_ k_ ∨ P1_0_ k_) ∨ w.heap.size ≤ k_) ∧ k_ ≠ ad ∧ k_ ≠ ab)) (ag.out) (fun k_ hk => ⟨hk.1.1, ⟨hk.1.2, hk.2⟩⟩))).2.1 (Kd.V_F (Kd.V_mono (ok' := (fun k_ => ((P0_ k_ ∨ P1_0_ k_) ∨ w.heap.size ≤ k_) ∧ k_ ≠ ad ∧ k_ ≠ ab)) (ag.out) (fun k_ hk => ⟨hk.1.1, ⟨hk.1.2, hk.2⟩⟩))))) (Reps.one (show Kd.FK (Kd.slice 3 (Kd.int .i64)) _ _ l1_0 [.slice A1_0 l1_0.length c1_0] from (Kd.FK_slice_mk (Kd.V_reads' (Kd.V_mono (ok' := (fun k_ => ((P0_ k_ ∨ P1_0_ k_) ∨ w.heap.size ≤ k_) ∧ k_ ≠ ad ∧ k_ ≠ ab)) (HO1_0.out) (fun k_ hk => ⟨hk.1.1, ⟨hk.1.2, hk.2⟩⟩))).2.1 (Kd.V_F (Kd.V_mono (ok' := (fun k_ => ((P0_ k_ ∨ P1_0_ k_) ∨ w.heap.size ≤ k_) ∧ k_ ≠ ad ∧ k_ ≠ ab)) (HO1_0.out) (fun k_ hk => ⟨hk.1.1, ⟨hk.1.2, hk.2⟩⟩))))) (Reps.none _ _))))
 intro bl bq ho11 hb hg_ hnew_; clear hg_ hnew_
 (first | rw [← aF.out] at ho11 | (simp only [Int.reduceToNat] at ho11; rw [← aF.out] at ho11))
 replace ag := Aside0.mk (Kd.V_elder' (by (with_reducible repeat (first | apply Kd.V_alloc | apply Kd.V_drewN | apply Kd.V_drew)); exact ag.out) (Kd.N_base ho11) hb); replace HO1_0 := Aside0.mk (Kd.V_elder' (by (with_reducible repeat (first | apply Kd.V_alloc | apply Kd.V_drewN | apply Kd.V_drew)); exact HO1_0.out) (Kd.N_base ho11) hb); have af := Aside0.mk (Kd.N_lower ho11 (below_size (zS HB.out))); replace aa := xB aa hb; replace ac := xB ac hb; replace HB := xS HB hb; clear hb ho11; obtain ⟨ax, ay, aL⟩ := Kd.N_slice af.out
 (first | subst aL | (injection aL with f1_ f2_ f3_; have f4_ := f1_.symm; have f5_ := f3_.symm; clear f1_ f2_ f3_; subst f4_; subst f5_))
 refine hK.out _ _ ⟨b1 aa 0, b1 aa 1⟩ (fun hHeld => ?_); clear hK K; refine norm_ (a' := ?_) ?_ ?_; rotate_left
 ·show Act.put _ (some 9) _ = _; simp only [Act.put, q5]; rfl
 refine one_ (i := 4) (N := some 10) bl8 rfl rfl (one_of HT_.out (by kernel_rfl)) (by decide) (fun K hK => ?_); refine goes_ Try.func61 (by kernel_rfl) rfl #[.slice ax ap.length ay] (by rfl) rfl rfl (by (try simp only [m3]); first | done | rfl | (simp only [d2]; rfl)) ?_
 with_reducible refine (slices_Concat_int_int.calls k _ _ ap ak _ ?side1 ?side2 A3.out).mono ?_
 (case side1 => exact zC (Kd.N_reads' af.out).2.2)
 (case side2 => exact (Kd.N_reads' af.out).2.1)
 rintro e br ⟨bm, rfl, ho0, hb⟩; refine ⟨_, rfl, ?_⟩; replace ag := Aside0.mk (Kd.V_elder' (by (with_reducible repeat (first | apply Kd.V_alloc | apply Kd.V_drewN | apply Kd.V_drew)); exact ag.out) (Kd.R_base ho0) hb); replace HO1_0 := Aside0.mk (Kd.V_elder' (by (with_reducible repeat (first | apply Kd.V_alloc | apply Kd.V_drewN | apply Kd.V_drew)); exact HO1_0.out) (Kd.R_base ho0) hb); replace af := Aside0.mk (Kd.N_elder' (by (with_reducible repeat (first | apply Kd.N_alloc | apply Kd.N_drewN | apply Kd.N_drew)); exact af.out) (Kd.R_base ho0) hb); have ae := Aside0.mk (Kd.R_lower (Kd.R_newM (M := fun k_ => (w.heap.size ≤ k_)) ho0 (below_size (zS HB.out)) (fun k_ h_ => h_)) (below_size (zS HB.out))); replace aa := xB aa hb; replace ac := xB ac hb; replace HB := xS HB hb
 (try clear hb)
 (try clear hb2)
 (try clear hk)
 (try clear hi)
 (try clear ho0)
 refine hK.out _ _ ⟨b1 aa 0, b1 aa 1⟩ (fun hHeld => ?_); clear hK K; refine norm_ (a' := ?_) ?_ ?_; rotate_left
 ·show Act.put _ (some 10) _ = _; simp only [Act.put, q5]; rfl
 refine one_ (i := 7) (N := some 13) bl9 rfl rfl (one_of HT_.out (by kernel_rfl)) (by decide) (fun K hK => ?_); refine goes_ Try.func62 (by kernel_rfl) rfl #[.slice A1_1 l1_1.length c1_1] (by rfl) rfl rfl (by (try simp only [m3]); first | done | rfl | (simp only [d2]; rfl)) ?_
 with_reducible refine (slices_Clone_int_int.calls _ _ l1_1 ai _ ?side1 ?side2 A4.out).mono ?_
 (case side1 => exact zC (Kd.C_below HR1_1.out HB.out))
 (case side2 => exact HC1_1.out)
 rintro e bs ⟨bn, rfl, ho0, hb⟩; refine ⟨_, rfl, ?_⟩; replace ag := Aside0.mk (Kd.V_elder' (by (with_reducible repeat (first | apply Kd.V_alloc | apply Kd.V_drewN | apply Kd.V_drew)); exact ag.out) (Kd.R_base ho0) hb); replace HO1_0 := Aside0.mk (Kd.V_elder' (by (with_reducible repeat (first | apply Kd.V_alloc | apply Kd.V_drewN | apply Kd.V_drew)); exact HO1_0.out) (Kd.R_base ho0) hb); replace af := Aside0.mk (Kd.N_elder' (by (with_reducible repeat (first | apply Kd.N_alloc | apply Kd.N_drewN | apply Kd.N_drew)); exact af.out) (Kd.R_base ho0) hb); have aj := Aside0.mk (Kd.R_lower (Kd.R_new' (Kd.R_newM (M := fun k_ => (w.heap.size ≤ k_)) ho0 (below_size (zS HB.out)) (fun k_ h_ => h_)) (Kd.R_lt (zR ae.out))) (below_size (zS HB.out))); replace ae := xE ae ho0 hb; replace aa := xB aa hb; replace ac := xB ac hb; replace HB := xS HB hb
 (try clear hb)
 (try clear hb2)
 (try clear hk)
 (try clear hi)
 (try clear ho0)
 obtain ⟨az, aA, aM⟩ := Kd.R_slice aj.out
 (first | subst aM | (injection aM with f1_ f2_ f3_; have f4_ := f1_.symm; have f5_ := f3_.symm; clear f1_ f2_ f3_; subst f4_; subst f5_))
 obtain ⟨aB, aC, aN⟩ := Kd.R_slice ae.out
 (first | subst aN | (injection aN with f1_ f2_ f3_; have f4_ := f1_.symm; have f5_ := f3_.symm; clear f1_ f2_ f3_; subst f4_; subst f5_))
 refine hK.out _ _ ⟨b1 aa 0, b1 aa 1⟩ (fun hHeld => ?_); clear hK K; refine norm_ (a' := ?_) ?_ ?_; rotate_left
 ·show Act.put _ (some 13) _ = _; simp only [Act.put, q5]; rfl
 refine pu 8 (some 14) bl10 HT_ ?_ rfl rfl (.inl ⟨by rfl, ?_⟩) ?_ ?_ ?_; rotate_left; (intro w'; go_simp; with_reducible rfl); rotate_left; (simp only [Act.put, q5]; rfl)
 refine one_ (i := 10) (N := some 16) bl11 rfl rfl (one_of HT_.out (by kernel_rfl)) (by decide) (fun K hK => ?_); refine goes_ Try.func56 (by kernel_rfl) rfl #[.agg #[.slice A1_0 l1_0.length c1_0, .slice A1_1 l1_1.length c1_1]] (by rfl) rfl rfl (by (try simp only [m3]); first | done | rfl | (simp only [d2]; rfl)) ?_
 with_reducible refine (impl_isRight.calls k _ _ l1_0 _ _ l1_1 al _ ?side1 ?side2 ?side3 ?side4 A5.out).mono ?_
 (case side1 => exact zC (Kd.V_reads' HO1_0.out).2.2)
 (case side2 => exact (Kd.V_reads' HO1_0.out).2.1)
 (case side3 => exact zC (Kd.C_below HR1_1.out HB.out))
 (case side4 => exact HC1_1.out)
 rintro e bt ⟨rfl, hb⟩; refine ⟨_, rfl, ?_⟩; replace ag := Aside0.mk (Kd.V_below (by (with_reducible repeat (first | apply Kd.V_alloc | apply Kd.V_drewN | apply Kd.V_drew)); exact ag.out) hb); replace HO1_0 := Aside0.mk (Kd.V_below (by (with_reducible repeat (first | apply Kd.V_alloc | apply Kd.V_drewN | apply Kd.V_drew)); exact HO1_0.out) hb); replace af := Aside0.mk (Kd.N_below (by (with_reducible repeat (first | apply Kd.N_alloc | apply Kd.N_drewN | apply Kd.N_drew)); exact af.out) hb); replace ae := xR ae hb; replace aj := xR aj hb; replace aa := xB aa hb; replace ac := xB ac hb; replace HB := xS HB hb
 (try clear hb)
 (try clear hb2)
 (try clear hk)
 (try clear hi)
 refine hK.out _ _ ⟨b1 aa 0, b1 aa 1⟩ (fun hHeld => ?_); clear hK K; refine norm_ (a' := ?_) ?_ ?_; rotate_left
 ·show Act.put _ (some 16) _ = _; simp only [Act.put, q5]; rfl
 refine one_ (i := 11) (N := some 17) bl12 rfl rfl (one_of HT_.out (by kernel_rfl)) (by decide) (fun K hK => ?_); refine goes_ Try.func60 (by kernel_rfl) rfl #[.agg #[.slice aB ak.length aC, .slice az ai.length aA], .bool al] (by rfl) rfl rfl (by (try simp only [m3]); first | done | rfl | (simp only [d2]; rfl)) ?_
 with_reducible refine (impl_rightOr.calls k (fun k_ => some k_ = (.slice aB ak.length aC : Value).ownBlock) (.slice aB ak.length aC) ak (fun k_ => some k_ = (.slice az ai.length aA : Value).ownBlock) (.slice az ai.length aA) ai al an aq aK w _ ?side1 ?side2 ?side3 ?side4 ?side5 A6.out).mono ?_
 (case side1 => repeat (first | (with_reducible first | exact HB.out | apply below_alloc | apply pw_below_drewN | apply below_drew1 | refine below_set ?_ aG.out | refine below_set ?_ aH.out) | exact HB.out))
 (case side2 => exact Kd.R_tight rfl ae.out)
 (case side3 => exact fun k_ e_ => (ae.out.1 k_ e_.symm).2)
 (case side4 => exact Kd.R_tight rfl aj.out)
 (case side5 => exact fun k_ e_ => (aj.out.1 k_ e_.symm).2)
 rintro e aU ⟨ar, au, rfl, ho0, ho1, hb, hkp⟩; refine ⟨_, rfl, ?_⟩; have aV := Aside0.mk (Kd.V_mono (ok' := fun k_ => ((P0_ k_ ∨ P1_0_ k_) ∨ w.heap.size ≤ k_) ∧ some k_ ≠ (.slice ax ap.length ay : Value).ownBlock ∧ k_ ≠ ad ∧ k_ ≠ ab ∧ some k_ ≠ (ar : Value).ownBlock ∧ some k_ ≠ (au : Value).ownBlock) (Kd.V_keptB (ag.out) hkp (fun k_ hk_ hs_ => Or.elim hs_ (fun e_ => (hk_.1.2) e_) (fun e_ => (hk_.2) e_))) (fun k_ hk_ => ⟨hk_.1.1.1.1.1.1, hk_.1.1.1.2, hk_.1.1.1.1.1.2, hk_.1.1.1.1.2, fun e_ => Or.elim (ho0.1 k_ e_.symm).1 (fun hs_ => hk_.2.1 hs_) (fun hn_ => Nat.not_le.2 hk_.2.2 hn_), fun e_ => Or.elim (ho1.1 k_ e_.symm).1 (fun hs_ => hk_.2.1 hs_) (fun hn_ => Nat.not_le.2 hk_.2.2 hn_)⟩)); have aW := Aside0.mk (Kd.V_mono (ok' := fun k_ => ((P0_ k_ ∨ P1_0_ k_) ∨ w.heap.size ≤ k_) ∧ some k_ ≠ (.slice ax ap.length ay : Value).ownBlock ∧ k_ ≠ ad ∧ k_ ≠ ab ∧ some k_ ≠ (ar : Value).ownBlock ∧ some k_ ≠ (au : Value).ownBlock) (Kd.V_keptB (HO1_0.out) hkp (fun k_ hk_ hs_ => Or.elim hs_ (fun e_ => (hk_.1.2) e_) (fun e_ => (hk_.2) e_))) (fun k_ hk_ => ⟨hk_.1.1.1.1.1.1, hk_.1.1.1.2, hk_.1.1.1.1.1.2, hk_.1.1.1.1.2, fun e_ => Or.elim (ho0.1 k_ e_.symm).1 (fun hs_ => hk_.2.1 hs_) (fun hn_ => Nat.not_le.2 hk_.2.2 hn_), fun e_ => Or.elim (ho1.1 k_ e_.symm).1 (fun hs_ => hk_.2.1 hs_) (fun hn_ => Nat.not_le.2 hk_.2.2 hn_)⟩)); have aX := Aside0.mk (blk_kept (zB aa.out) hkp (fun hs_ => Or.elim hs_ (fun e_ => (fun e_ => (Kd.R_ne ae.out aa.out (by decide)) e_) e_) (fun e_ => (fun e_ => (Kd.R_ne aj.out aa.out (by decide)) e_) e_))); have aY := Aside0.mk (blk_kept (zB ac.out) hkp (fun hs_ => Or.elim hs_ (fun e_ => (fun e_ => (Kd.R_ne ae.out ac.out (by decide)) e_) e_) (fun e_ => (fun e_ => (Kd.R_ne aj.out ac.out (by decide)) e_) e_))); have aZ := Aside0.mk (Kd.N_mono (ok' := fun k_ => ((P0_ k_ ∨ P1_0_ k_) ∨ w.heap.size ≤ k_) ∧ k_ ≠ ad ∧ k_ ≠ ab ∧ some k_ ≠ (ar : Value).ownBlock ∧ some k_ ≠ (au : Value).ownBlock) (Kd.N_keptB (af.out) hkp (fun k_ hk_ hs_ => Or.elim hs_ (fun e_ => (hk_.1.2) e_) (fun e_ => (hk_.2) e_))) (fun k_ hk_ => ⟨hk_.1.1.1.1, hk_.1.1.1.2.1, hk_.1.1.1.2.2, fun e_ => Or.elim (ho0.1 k_ e_.symm).1 (fun hs_ => hk_.2.1 hs_) (fun hn_ => Nat.not_le.2 hk_.2.2 hn_), fun e_ => Or.elim (ho1.1 k_ e_.symm).1 (fun hs_ => hk_.2.1 hs_) (fun hn_ => Nat.not_le.2 hk_.2.2 hn_)⟩)); have ba := Aside0.mk (Kd.R_mono (ok' := fun k_ => (w.heap.size ≤ k_) ∧ some k_ ≠ (au : Value).ownBlock) ho0 (fun k_ hk_ => ⟨Or.elim hk_.1 (fun hs_ => Or.elim hs_ (fun hs_ => (ae.out.1 k_ (hs_).symm).1.1) (fun hs_ => (aj.out.1 k_ (hs_).symm).1.1)) (fun hn_ => (Nat.le_trans (below_size (zS HB.out)) hn_)), hk_.2⟩))
 have bb := Aside0.mk (Kd.R_mono (ok' := fun k_ => (w.heap.size ≤ k_) ∧ some k_ ≠ (ar : Value).ownBlock) ho1 (fun k_ hk_ => ⟨Or.elim hk_.1 (fun hs_ => Or.elim hs_ (fun hs_ => (ae.out.1 k_ (hs_).symm).1.1) (fun hs_ => (aj.out.1 k_ (hs_).symm).1.1)) (fun hn_ => (Nat.le_trans (below_size (zS HB.out)) hn_)), hk_.2⟩)); have bc := Aside0.mk (hb); clear ag; clear HO1_0; clear aa; clear ac; clear af; clear HB; clear ae; clear aj; have ag := aV; have HO1_0 := aW; have aa := aX; have ac := aY; have af := aZ; have aI := ba; have aJ := bb; have HB := bc; clear aV aW aX aY aZ ba bb bc
 (try clear hb)
 (try clear hkp)
 (try clear ho0)
 (try clear ho1)
 obtain ⟨av, aw, aO⟩ := Kd.R_slice aI.out
 (first | subst aO | (injection aO with f1_ f2_ f3_; have f4_ := f1_.symm; have f5_ := f3_.symm; clear f1_ f2_ f3_; subst f4_; subst f5_))
 obtain ⟨aD, aE, aP⟩ := Kd.R_slice aJ.out
 (first | subst aP | (injection aP with f1_ f2_ f3_; have f4_ := f1_.symm; have f5_ := f3_.symm; clear f1_ f2_ f3_; subst f4_; subst f5_))
 refine hK.out _ _ ⟨b1 aa 0, b1 aa 1⟩ (fun hHeld => ?_); clear hK K; refine norm_ (a' := ?_) ?_ ?_; rotate_left
 ·show Act.put _ (some 17) _ = _; simp only [Act.put, q5]; rfl
 refine pu 12 (some 18) bl13 HT_ ?_ rfl rfl (.inl ⟨by rfl, ?_⟩) ?_ ?_ ?_; rotate_left; (intro w'; go_simp; with_reducible rfl); rotate_left; (simp only [Act.put, q5]; rfl)
 refine pu 13 (some 19) bl14 HT_ ?_ rfl rfl (.inl ⟨by rfl, ?_⟩) ?_ ?_ ?_; rotate_left; (intro w'; go_simp; with_reducible rfl); rotate_left; (simp only [Act.put, q5]; rfl)
 refine one_ (i := 14) (N := none) bl15 rfl rfl (one_of HT_.out (by kernel_rfl)) (by decide) (fun K hK => ?_); have bo : aU.cell? ⟨ab, 0, none⟩ = some (.slice none 0 0) := b1 ac 0; have bj := blk_frozen ac.out 0; have bd := ah.out; have be := ao.out; have bp : aU.cell? ⟨ab, 1, none⟩ = some (.slice none 0 0) := b1 ac 1; have bk := blk_frozen ac.out 1; have bf := ah.out; have bg := ao.out; refine skip_ (w1 := ?_) (by rfl) rfl ?_ ?_; rotate_left
 ·go_simp; rfl
 refine hK.out _ _ ⟨((cell_far (p := ⟨ab, _, none⟩) ah.out _).trans (((cell_far (p := ⟨ab, _, none⟩) ah.out _).trans (hHeld.1)))), ((cell_far (p := ⟨ab, _, none⟩) ah.out _).trans (((cell_far (p := ⟨ab, _, none⟩) ah.out _).trans (hHeld.2))))⟩ (fun hHeld => ?_); clear hK K
 refine pu 15 (some 5) bl16 HT_ ?_ rfl rfl (.inl ⟨by rfl, ?_⟩) ?_ ?_ ?_; rotate_left; (intro w'; go_simp; with_reducible rfl); rotate_left; (simp only [Act.put, q5]; rfl)
 refine done_ (done_of HT_.out (by kernel_rfl)) ?_
 try go_wp2
 refine bodyPost_ret (results_ct rfl _ _ ab 27 #[.slice av an.length aw, .slice aD aq.length aE] (0, 0) _ rfl (by (with_reducible repeat (first | refine blk_drewN ?_ _ | refine blk_drew ?_ | refine blk_alloc ?_ _)); refine blk_put (cs := #[.slice av an.length aw, .slice none 0 0]) ?_ 1 _ rfl; (with_reducible repeat (first | refine blk_drewN ?_ _ | refine blk_drew ?_ | refine blk_alloc ?_ _)); refine blk_put (cs := #[.slice none 0 0, .slice none 0 0]) ?_ 0 _ rfl; (with_reducible repeat (first | refine blk_drewN ?_ _ | refine blk_drew ?_ | refine blk_alloc ?_ _)); exact ac.out) Try.underlying27 rfl (by kernel_rfl)) rfl ?_; exact ⟨_, _, by first | rfl | (simp [errW_none, errW_some] <;> rfl) | (simp [*, errW_none, errW_some] <;> rfl), by (with_reducible repeat (first | apply Kd.R_alloc | apply Kd.R_drewN | apply Kd.R_drew)); exact Kd.R_mono (Kd.R_far (p := ⟨ab, 1, none⟩) (Kd.R_far (p := ⟨ab, 0, none⟩) (Kd.R_types aI.out ac.out (by decide)) (fun _ hk => hk.2) (.slice av an.length aw)) (fun _ hk => hk.2) (.slice aD aq.length aE)) (fun _ hk => ⟨hk.1.1, hk.1.2⟩), by (with_reducible repeat (first | apply Kd.R_alloc | apply Kd.R_drewN | apply Kd.R_drew)); exact Kd.R_mono (Kd.R_far (p := ⟨ab, 1, none⟩) (Kd.R_far (p := ⟨ab, 0, none⟩) (Kd.R_types aJ.out ac.out (by decide)) (fun _ hk => hk.2) (.slice av an.length aw)) (fun _ hk => hk.2) (.slice aD aq.length aE)) (fun _ hk => ⟨hk.1.1, hk.1.2⟩), by repeat (first | (with_reducible first | exact HB.out | apply below_alloc | apply pw_below_drewN | apply below_drew1 | refine below_set ?_ aG.out | refine below_set ?_ aH.out) | exact HB.out)⟩

section
open Go.Proofs.Ythkljpbddddhdaa.Short2.T
abbrev impl_copyWord.bl0 : Array Bool := #[f, f, f, f, f, f, f, f]
abbrev impl_copyWord.bl1 : Array Bool := #[t, f, f, f, f, f, f, f]
abbrev impl_copyWord.bl2 : Array Bool := #[t, f, f, t, f, f, f, f]
abbrev impl_copyWord.bl3 : Array Bool := #[t, t, f, t, f, f, f, f]
abbrev impl_copyWord.bl4 : Array Bool := #[t, t, f, t, t, f, f, f]
abbrev impl_copyWord.bl5 : Array Bool := #[t, t, t, t, t, f, f, f]
abbrev impl_copyWord.bl6 : Array Bool := #[t, t, t, t, t, t, f, f]
abbrev impl_copyWord.bl7 : Array Bool := #[t, t, t, t, t, t, t, f]
abbrev impl_copyWord.bl8 : Array Bool := #[t, t, t, t, t, t, t, t]
end
/-! ### impl_copyWord: function 63 -/
def impl_copyWord.f (l0_0 : List Int) (l0_1 : List Int) : Option (List Int × List Int) := (slices_Clone_int_int.f l0_0).bind fun t190 => ((slices_Clone_int_int.f l0_1).bind fun t193 => (some (t190, t193)))
def impl_copyWord.T1 : Bool × List (List Nat × List Nat) := (true, [([], []), ([0], [0]), ([1], [1]), ([], []), ([3], [3]), ([4, 2], [4]), ([2, 5], [2, 5]), ([6, 5, 0, 1, 2, 3, 4, 5, 6], [6])])
def impl_copyWord.B1 : List Nat := [0, 1, 3, 0, 8, 31, 63, 127]
theorem impl_copyWord.tab1 : rtab .any (opsOf Try.f63 1) = impl_copyWord.T1 := by kernel_rfl
theorem impl_copyWord.bits1 : waitsOk impl_copyWord.T1.2 impl_copyWord.B1 = true := by kernel_rfl
open Go.Proofs.Ythkljpbddddhdaa.Short2 in
set_option maxHeartbeats 8000000 in
set_option maxRecDepth 100000 in
theorem impl_copyWord.calls (A0_0 : Option Addr) (c0_0 : Nat) (l0_0 : List Int) (A0_1 : Option Addr) (c0_1 : Nat) (l0_1 : List Int) (r1 : List Int) (r2 : List Int) (w : World) (hr0_0 : Kd.C (Kd.int .i64) w A0_0 l0_0.length l0_0) (hc0_0 : l0_0.length ≤ c0_0) (hr0_1 : Kd.C (Kd.int .i64) w A0_1 l0_1.length l0_1) (hc0_1 : l0_1.length ≤ c0_1) (h : impl_copyWord.f l0_0 l0_1 = some (r1, r2)) :
  Calls Try.prog 63 #[.agg #[.slice A0_0 l0_0.length c0_0, .slice A0_1 l0_1.length c0_1]] w fun e w' => ∃ v0_ v1_ : Value, e = .returned (.agg #[v0_, v1_]) ∧ Kd.R (Kd.int .i64) 3 w' w.heap.size (fun k_ => some k_ ≠ (v1_ : Value).ownBlock) v0_ r1 ∧ Kd.R (Kd.int .i64) 3 w' w.heap.size (fun k_ => some k_ ≠ (v0_ : Value).ownBlock) v1_ r2 ∧ Below w.heap.size w w' := by
 have hu27 := Try.underlying27; have HR0_0 := Aside0.mk hr0_0; have HC0_0 := Aside0.mk hc0_0; clear hr0_0 hc0_0; have HR0_1 := Aside0.mk hr0_1; have HC0_1 := Aside0.mk hc0_1; clear hr0_1 hc0_1; have HB := Aside0.mk (Below.refl w.heap.size w); have H : ((slices_Clone_int_int.f l0_0).bind fun ae => ((slices_Clone_int_int.f l0_1).bind fun af => (some (ae, af)))) = some (r1, r2) := h; clear h; replace H := Option.bind_eq_some_iff.mp H; obtain ⟨ae, ar, H⟩ := H; replace H : ((slices_Clone_int_int.f l0_1).bind fun af => (some (ae, af))) = some (r1, r2) := H; have A2 := Aside0.mk ar; clear ar; replace H := Option.bind_eq_some_iff.mp H; obtain ⟨af, au, H⟩ := H; replace H : (some (ae, af)) = some (r1, r2) := H; have A3 := Aside0.mk au; clear au; simp only [Option.some.injEq, Prod.mk.injEq] at H; obtain ⟨rfl, rfl⟩ := H
 go_enter Try.func63, Try.ntmps63
 try go_wp2_with (first | ((with_reducible refine gate_dst (N := 1) rfl ?_); refine box_event ?hg (N := 1) ?hd (cs := #[.slice A0_0 l0_0.length c0_0, .slice A0_1 l0_1.length c0_1]) (t := 27) ?hr ?_; (case hd => rfl); (case hg => rfl); (case hr => first | (go_simp; done) | (go_simp; rfl)); intro ak hg w4 hbox hb; have aa := Aside0.mk (hbox); have aA := xG HB hg; have ap := xG HB hg; replace HB := xS HB hb; clear hb hbox hg) | ((with_reducible refine gate_dst (N := 2) rfl ?_); refine box_event ?hg (N := 2) ?hd (cs := #[.slice none 0 0, .slice none 0 0]) (t := 27) ?hr ?_; (case hd => rfl); (case hg => rfl); (case hr => first | (go_simp; done) | (go_simp; rfl)); intro ad hg w5 hbox hb; have ab := Aside0.mk (hbox); have aB := xG HB hg; have aq := xG HB hg; replace HB := xS HB hb; have ac := xN aa hg; have ah := xM aa hg; replace aa := xB aa hb; clear hb hbox hg))
 replace aa := Aside0.mk (blk_drew aa.out); replace ab := Aside0.mk (blk_drew ab.out); replace HB := Aside0.mk (below_drew1 HB.out); refine start_ (n := 8) (S := fun w' => w'.cell? ⟨ak, 0, none⟩ = some (.slice A0_0 l0_0.length c0_0) ∧ w'.cell? ⟨ak, 1, none⟩ = some (.slice A0_1 l0_1.length c0_1)) (ds := []) bl0 (by kernel_rfl) rfl rfl ⟨b1 aa 0, b1 aa 1⟩ (fun hHeld => ?_); refine with_tabW impl_copyWord.tab1 impl_copyWord.bits1 (fun HT_ HW_ => ?_); generalize w5.drew = w6 at aa ab HB hHeld ⊢
 refine pu 0 (some 3) bl1 HT_ ?_ rfl rfl (.inl ⟨by rfl, ?_⟩) ?_ ?_ ?_; rotate_left; (intro w'; go_simp; with_reducible rfl); rotate_left; (simp only [Act.put, q5]; rfl)
 refine pu 3 (some 6) bl2 HT_ ?_ rfl rfl (.inl ⟨by rfl, ?_⟩) ?_ ?_ ?_; rotate_left; (intro w'; go_simp; with_reducible rfl); rotate_left; (simp only [Act.put, q5]; rfl)
 refine take_ (i := 1) (N := some 4) (v := ?_) (a' := ?_) bl3 rfl rfl (take_ofW HT_.out HW_.out (by kernel_rfl)) (fun _ _ _ h => h) (Or.inl ⟨by rfl, ?_⟩) hHeld ?_ ?_; rotate_left
 ·rintro w' ⟨s0, s1⟩; go_simp; with_reducible rfl
 rotate_left
 ·simp only [Act.put, q5]; rfl
 refine take_ (i := 4) (N := some 7) (v := ?_) (a' := ?_) bl4 rfl rfl (take_ofW HT_.out HW_.out (by kernel_rfl)) (fun _ _ _ h => h) (Or.inl ⟨by rfl, ?_⟩) hHeld ?_ ?_; rotate_left
 ·rintro w' ⟨s0, s1⟩; go_simp; with_reducible rfl
 rotate_left
 ·simp only [Act.put, q5]; rfl
 refine one_ (i := 2) (N := some 5) bl5 rfl rfl (one_of HT_.out (by kernel_rfl)) (by decide) (fun K hK => ?_); refine goes_ Try.func62 (by kernel_rfl) rfl #[.slice A0_0 l0_0.length c0_0] (by rfl) rfl rfl (by (try simp only [m3]); first | done | rfl | (simp only [d2]; rfl)) ?_
 with_reducible refine (slices_Clone_int_int.calls _ _ l0_0 ae _ ?side1 ?side2 A2.out).mono ?_
 (case side1 => exact zC (Kd.C_below HR0_0.out HB.out))
 (case side2 => exact HC0_0.out)
 rintro e w7 ⟨aE, rfl, ho0, hb⟩; refine ⟨_, rfl, ?_⟩; have ag := Aside0.mk (Kd.R_lower ho0 (below_size (zS HB.out))); replace aa := xB aa hb; replace ab := xB ab hb; replace HB := xS HB hb
 (try clear hb)
 (try clear hb2)
 (try clear hk)
 (try clear hi)
 (try clear ho0)
 refine hK.out _ _ ⟨b1 aa 0, b1 aa 1⟩ (fun hHeld => ?_); clear hK K; refine norm_ (a' := ?_) ?_ ?_; rotate_left
 ·show Act.put _ (some 5) _ = _; simp only [Act.put, q5]; rfl
 refine one_ (i := 5) (N := some 8) bl6 rfl rfl (one_of HT_.out (by kernel_rfl)) (by decide) (fun K hK => ?_); refine goes_ Try.func62 (by kernel_rfl) rfl #[.slice A0_1 l0_1.length c0_1] (by rfl) rfl rfl (by (try simp only [m3]); first | done | rfl | (simp only [d2]; rfl)) ?_
 with_reducible refine (slices_Clone_int_int.calls _ _ l0_1 af _ ?side1 ?side2 A3.out).mono ?_
 (case side1 => exact zC (Kd.C_below HR0_1.out HB.out))
 (case side2 => exact HC0_1.out)
 rintro e w8 ⟨aF, rfl, ho0, hb⟩; refine ⟨_, rfl, ?_⟩; have al := Aside0.mk (Kd.R_lower (Kd.R_new' ho0 (Kd.R_lt (zR ag.out))) (below_size (zS HB.out))); replace ag := xE ag ho0 hb; replace aa := xB aa hb; replace ab := xB ab hb; replace HB := xS HB hb
 (try clear hb)
 (try clear hb2)
 (try clear hk)
 (try clear hi)
 (try clear ho0)
 obtain ⟨am, an, av⟩ := Kd.R_slice al.out
 (first | subst av | (injection av with f1_ f2_ f3_; have f4_ := f1_.symm; have f5_ := f3_.symm; clear f1_ f2_ f3_; subst f4_; subst f5_))
 obtain ⟨ai, aj, ao⟩ := Kd.R_slice ag.out
 (first | subst ao | (injection ao with f1_ f2_ f3_; have f4_ := f1_.symm; have f5_ := f3_.symm; clear f1_ f2_ f3_; subst f4_; subst f5_))
 refine hK.out _ _ ⟨b1 aa 0, b1 aa 1⟩ (fun hHeld => ?_); clear hK K; refine norm_ (a' := ?_) ?_ ?_; rotate_left
 ·show Act.put _ (some 8) _ = _; simp only [Act.put, q5]; rfl
 refine pu 6 (some 9) bl7 HT_ ?_ rfl rfl (.inl ⟨by rfl, ?_⟩) ?_ ?_ ?_; rotate_left; (intro w'; go_simp; with_reducible rfl); rotate_left; (simp only [Act.put, q5]; rfl)
 refine one_ (i := 7) (N := none) bl8 rfl rfl (one_of HT_.out (by kernel_rfl)) (by decide) (fun K hK => ?_); have aG : w8.cell? ⟨ad, 0, none⟩ = some (.slice none 0 0) := b1 ab 0; have aC := blk_frozen ab.out 0; have aw := ac.out; have ax := ah.out; have aH : w8.cell? ⟨ad, 1, none⟩ = some (.slice none 0 0) := b1 ab 1; have aD := blk_frozen ab.out 1; have ay := ac.out; have az := ah.out; refine skip_ (w1 := ?_) (by rfl) rfl ?_ ?_; rotate_left
 ·go_simp; rfl
 refine hK.out _ _ ⟨((cell_far (p := ⟨ad, _, none⟩) ac.out _).trans (((cell_far (p := ⟨ad, _, none⟩) ac.out _).trans (hHeld.1)))), ((cell_far (p := ⟨ad, _, none⟩) ac.out _).trans (((cell_far (p := ⟨ad, _, none⟩) ac.out _).trans (hHeld.2))))⟩ (fun hHeld => ?_); clear hK K; refine done_ (done_of HT_.out (by kernel_rfl)) ?_
 try go_wp2
 refine bodyPost_ret (results_cell_row rfl _ _ ad 27 #[.slice ai ae.length aj, .slice am af.length an] (0, 0) _ rfl (by (with_reducible repeat (first | refine blk_drewN ?_ _ | refine blk_drew ?_ | refine blk_alloc ?_ _)); refine blk_put (cs := #[.slice ai ae.length aj, .slice none 0 0]) ?_ 1 _ rfl; (with_reducible repeat (first | refine blk_drewN ?_ _ | refine blk_drew ?_ | refine blk_alloc ?_ _)); refine blk_put (cs := #[.slice none 0 0, .slice none 0 0]) ?_ 0 _ rfl; (with_reducible repeat (first | refine blk_drewN ?_ _ | refine blk_drew ?_ | refine blk_alloc ?_ _)); exact ab.out) Try.underlying27 rfl (by kernel_rfl)) rfl ?_; exact ⟨_, _, by first | rfl | (simp [errW_none, errW_some] <;> rfl) | (simp [*, errW_none, errW_some] <;> rfl), by (with_reducible repeat (first | apply Kd.R_alloc | apply Kd.R_drewN | apply Kd.R_drew)); exact Kd.R_mono (Kd.R_far (p := ⟨ad, 1, none⟩) (Kd.R_far (p := ⟨ad, 0, none⟩) (Kd.R_types ag.out ab.out (by decide)) (fun _ hk => hk.2) (.slice ai ae.length aj)) (fun _ hk => hk.2) (.slice am af.length an)) (fun _ hk => hk.1.2), by (with_reducible repeat (first | apply Kd.R_alloc | apply Kd.R_drewN | apply Kd.R_drew)); exact Kd.R_mono (Kd.R_far (p := ⟨ad, 1, none⟩) (Kd.R_far (p := ⟨ad, 0, none⟩) (Kd.R_types al.out ab.out (by decide)) (fun _ hk => hk.2) (.slice ai ae.length aj)) (fun _ hk => hk.2) (.slice am af.length an)) (fun _ hk => hk.1.2), by repeat (first | (with_reducible first | exact HB.out | apply below_alloc | apply pw_below_drewN | apply below_drew1 | refine below_set ?_ ap.out | refine below_set ?_ aq.out) | exact HB.out)⟩

end Go.Proofs.Ythkljpbddddhdaa.MFnJoin3
