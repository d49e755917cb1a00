-- Written by a program of this session, out of Lean's print of the translation. Not trusted: Lean checks it.
import Derived.Test.YthkljpbddddhdaaMFnExactWordJoinx0
import Derived.Test.YthkljpbddddhdaaMFnExactWordJoinx1
namespace Go.Proofs.Ythkljpbddddhdaa.MFnExactWordJoin
open Go.RowKit Go.Proofs.YthkljpbddddhdaaW.PrintWords Go.Proofs.YthkljpbddddhdaaW.PrintLast Go.Proofs.YthkljpbddddhdaaW.PrintMore
attribute [local go_sem] max2_int min2_int max_two min_two max_three min_three max_four min_four   -- for this text's walks alone
set_option linter.unusedVariables false
set_option linter.unusedSimpArgs false

section
open Go.Proofs.Ythkljpbddddhdaa.Short2.T
abbrev spec_WordJoin.bl0 : Array Bool := #[f, f, f, f, f, f, f, f, f, f, f, f, f, f, f, f]
abbrev spec_WordJoin.bl1 : Array Bool := #[f, t, f, f, f, f, f, f, f, f, f, f, f, f, f, f]
abbrev spec_WordJoin.bl2 : Array Bool := #[f, t, f, t, f, f, f, f, f, f, f, f, f, f, f, f]
abbrev spec_WordJoin.bl3 : Array Bool := #[f, t, f, t, f, f, f, t, f, f, f, f, f, f, f, f]
abbrev spec_WordJoin.bl4 : Array Bool := #[f, t, f, t, t, f, f, t, f, f, f, f, f, f, f, f]
abbrev spec_WordJoin.bl5 : Array Bool := #[f, t, f, t, t, f, f, t, t, f, f, f, f, f, f, f]
abbrev spec_WordJoin.bl6 : Array Bool := #[t, t, t, t, t, t, t, t, t, f, f, f, f, f, f, f]
abbrev spec_WordJoin.bl7 : Array Bool := #[t, t, f, t, t, f, f, t, t, f, f, f, f, f, f, f]
abbrev spec_WordJoin.bl8 : Array Bool := #[f, t, f, t, t, f, t, t, t, f, f, f, f, f, f, f]
abbrev spec_WordJoin.bl9 : Array Bool := #[t, t, t, t, t, f, f, t, t, f, f, f, f, f, f, f]
abbrev spec_WordJoin.bl10 : Array Bool := #[t, t, f, t, t, f, t, t, t, f, f, f, f, f, f, f]
abbrev spec_WordJoin.bl11 : Array Bool := #[t, t, t, t, t, t, f, t, t, f, f, f, f, f, f, f]
abbrev spec_WordJoin.bl12 : Array Bool := #[t, t, t, t, t, f, t, t, t, f, f, f, f, f, f, f]
abbrev spec_WordJoin.bl13 : Array Bool := #[t, t, t, t, t, t, t, t, t, t, f, f, f, f, f, f]
abbrev spec_WordJoin.bl14 : Array Bool := #[t, t, t, t, t, t, t, t, t, t, t, f, f, f, f, f]
abbrev spec_WordJoin.bl15 : Array Bool := #[t, t, t, t, t, t, t, t, t, t, t, t, f, f, f, f]
abbrev spec_WordJoin.bl16 : Array Bool := #[t, t, t, t, t, t, t, t, t, t, t, t, t, f, f, f]
abbrev spec_WordJoin.bl17 : Array Bool := #[t, t, t, t, t, t, t, t, t, t, t, t, t, t, f, f]
abbrev spec_WordJoin.bl18 : Array Bool := #[t, t, t, t, t, t, t, t, t, t, t, t, t, t, t, f]
abbrev spec_WordJoin.bl19 : Array Bool := #[t, t, t, t, t, t, t, t, t, t, t, t, t, t, t, t]
end
/-! ### spec_WordJoin: function 31 -/
def spec_WordJoin.f (k : Nat) (l0 : List Int) (l1_0 : List Int) (l1_1 : List Int) : Option (List Int × List Int × Bool) := (spec_l3Right.f k l1_0 l1_1).bind fun t148 => (if t148 = true then (if (l0.length : Int) > 40 then (some (([] : List Int), ([] : List Int), false)) else ((some (([] : List Int) : List Int)).bind fun y149 => (if y149.length + l0.length < 17592186044416 then ((some (y149 ++ l0 : List Int)).bind fun y152 => (if y152.length + l1_0.length < 17592186044416 then ((some (([] : List Int) : List Int)).bind fun y158 => (if y158.length + l1_1.length < 17592186044416 then ((spec_l3Told.f k (y152 ++ l1_0) (y158 ++ l1_1)).bind fun bt164 => (some (bt164.1, bt164.2.1, bt164.2.2))) else (none))) else (none))) else (none)))) else (some (([] : List Int), ([] : List Int), false)))
theorem spec_WordJoin.mono : ∀ a0 a1 a2 k, LeO (spec_WordJoin.f k a0 a1 a2) (spec_WordJoin.f (k + 1) a0 a1 a2) := by
 intro a0 a1 a2 k
 unfold spec_WordJoin.f
 repeat' first
   | (with_reducible exact spec_l3Right.mono _ _ _)
   | (with_reducible exact spec_l3Told.mono _ _ _)
   | (with_reducible exact LeO.refl _)
   | (with_reducible exact LeO.none _)
   | (with_reducible refine LeO.ite ?_ ?_)
   | (with_reducible refine LeO.bind ?_ (fun _ => ?_))
   | exact spec_l3Right.mono _ _ _
   | exact spec_l3Told.mono _ _ _
   | exact LeO.none _
   | refine LeO.ite ?_ ?_
   | refine LeO.bind ?_ (fun _ => ?_)
def spec_WordJoin.T3 : Bool × List (List Nat × List Nat) := (true, [([], []), ([], []), ([0, 1], [0, 1]), ([], []), ([3], [3]), ([2, 4, 2], [2, 4]), ([], []), ([], []), ([7], [7]), ([6, 8, 5], [6, 8]), ([5, 9], [5, 9]), ([10, 9], [10]), ([11], [11]), ([11], [11]), ([12, 11, 0, 1, 2, 3, 4, 5, 6, 7, 8, 9, 10, 11, 12, 13], [12]), ([13, 14, 0, 1, 2, 3, 4, 5, 6, 7, 8, 9, 10, 11, 12, 13, 14], [13])])
def spec_WordJoin.B3 : List Nat := [0, 0, 3, 0, 8, 31, 0, 0, 128, 511, 1023, 2047, 4095, 4095, 16383, 32767]
theorem spec_WordJoin.tab3 : rtab .any (opsOf Try.f31 3) = spec_WordJoin.T3 := by kernel_rfl
theorem spec_WordJoin.bits3 : waitsOk spec_WordJoin.T3.2 spec_WordJoin.B3 = true := by kernel_rfl
open Go.Proofs.Ythkljpbddddhdaa.Short2 in
set_option maxHeartbeats 8000000 in
set_option maxRecDepth 100000 in
theorem spec_WordJoin.calls (k : Nat) (A0 : Option Addr) (c0 : Nat) (l0 : List Int) (A1_0 : Option Addr) (c1_0 : Nat) (l1_0 : List Int) (A1_1 : Option Addr) (c1_1 : Nat) (l1_1 : List Int) (r1 : List Int) (r2 : List Int) (r3 : Bool) (w : World) (hr0 : Kd.C (Kd.int .i64) w A0 l0.length l0) (hc0 : l0.length ≤ c0) (hr1_0 : Kd.C (Kd.int .i64) w A1_0 l1_0.length l1_0) (hc1_0 : l1_0.length ≤ c1_0) (hr1_1 : Kd.C (Kd.int .i64) w A1_1 l1_1.length l1_1) (hc1_1 : l1_1.length ≤ c1_1) (h : spec_WordJoin.f k l0 l1_0 l1_1 = some (r1, r2, r3)) :
  Calls Try.prog 31 #[.slice A0 l0.length c0, .agg #[.slice A1_0 l1_0.length c1_0, .slice A1_1 l1_1.length c1_1]] w fun e w' => ∃ v0_ v1_ : Value, e = .returned (.tuple #[.agg #[v0_, v1_], .bool r3]) ∧ Kd.R (Kd.int .i64) 3 w' w.heap.size (fun k_ => some k_ ≠ (v1_ : Value).ownBlock) v0_ r1 ∧ Kd.R (Kd.int .i64) 3 w' w.heap.size (fun k_ => some k_ ≠ (v0_ : Value).ownBlock) v1_ r2 ∧ Below w.heap.size w w' := by
 have hu27 := Try.underlying27; have HR0 := Aside0.mk hr0; have HC0 := Aside0.mk hc0; clear hr0 hc0; have HR1_0 := Aside0.mk hr1_0; have HC1_0 := Aside0.mk hc1_0; clear hr1_0 hc1_0; have HR1_1 := Aside0.mk hr1_1; have HC1_1 := Aside0.mk hc1_1; clear hr1_1 hc1_1; have HB := Aside0.mk (Below.refl w.heap.size w); have H : ((spec_l3Right.f k l1_0 l1_1).bind fun t148 => (if t148 = true then (if (l0.length : Int) > 40 then (some (([] : List Int), ([] : List Int), false)) else ((some (([] : List Int) : List Int)).bind fun y149 => (if y149.length + l0.length < 17592186044416 then ((some (y149 ++ l0 : List Int)).bind fun y152 => (if y152.length + l1_0.length < 17592186044416 then ((some (([] : List Int) : List Int)).bind fun y158 => (if y158.length + l1_1.length < 17592186044416 then ((spec_l3Told.f k (y152 ++ l1_0) (y158 ++ l1_1)).bind fun bt164 => (some (bt164.1, bt164.2.1, bt164.2.2))) else (none))) else (none))) else (none)))) else (some (([] : List Int), ([] : List Int), false)))) = some (r1, r2, r3) := h; clear h; replace H := Option.bind_eq_some_iff.mp H; obtain ⟨t148, A30, H⟩ := H; replace H : (if t148 = true then (if (l0.length : Int) > 40 then (some (([] : List Int), ([] : List Int), false)) else ((some (([] : List Int) : List Int)).bind fun y149 => (if y149.length + l0.length < 17592186044416 then ((some (y149 ++ l0 : List Int)).bind fun y152 => (if y152.length + l1_0.length < 17592186044416 then ((some (([] : List Int) : List Int)).bind fun y158 => (if y158.length + l1_1.length < 17592186044416 then ((spec_l3Told.f k (y152 ++ l1_0) (y158 ++ l1_1)).bind fun bt164 => (some (bt164.1, bt164.2.1, bt164.2.2))) else (none))) else (none))) else (none)))) else (some (([] : List Int), ([] : List Int), false))) = some (r1, r2, r3) := H; have A3 := Aside0.mk A30; clear A30
 by_cases c4 : t148 = true
 ·subst c4
  have H1 : (if (l0.length : Int) > 40 then (some (([] : List Int), ([] : List Int), false)) else ((some (([] : List Int) : List Int)).bind fun y149 => (if y149.length + l0.length < 17592186044416 then ((some (y149 ++ l0 : List Int)).bind fun y152 => (if y152.length + l1_0.length < 17592186044416 then ((some (([] : List Int) : List Int)).bind fun y158 => (if y158.length + l1_1.length < 17592186044416 then ((spec_l3Told.f k (y152 ++ l1_0) (y158 ++ l1_1)).bind fun bt164 => (some (bt164.1, bt164.2.1, bt164.2.2))) else (none))) else (none))) else (none)))) = some (r1, r2, r3) := by rw [if_pos rfl] at H; exact H
  clear H; have H := H1; clear H1
  by_cases c5 : (l0.length : Int) > 40
  ·rw [if_pos c5] at H; have c5b0 : decide (40 < (l0.length : Int)) = true := decide_eq_true c5; have c5b1 : decide (40 < l0.length) = true := decide_eq_true (by omega); clear c5; simp only [Option.some.injEq, Prod.mk.injEq] at H; obtain ⟨rfl, rfl, rfl⟩ := H
   go_enter Try.func31, Try.ntmps31
   go_wp2_with (first | ((with_reducible refine gate_dst (N := 3) rfl ?_); (try (refine gate_guard (by rfl) ?_; dsimp only)); refine box_event ?hg (N := 3) ?hd (cs := #[.slice A1_0 l1_0.length c1_0, .slice A1_1 l1_1.length c1_1]) (t := 27) ?hr ?_; (case hd => rfl); (case hg => rfl); (case hr => first | (go_simp; done) | (go_simp; rfl)); intro gb146 hg w6 hbox hb; have BK146 := Aside0.mk (hbox); have GW146 := xG HB hg; have GE146 := xG HB hg; replace HB := xS HB hb; clear hb hbox hg) | ((with_reducible refine gate_dst (N := 4) rfl ?_); (try (refine gate_guard (by rfl) ?_; dsimp only)); refine box_event ?hg (N := 4) ?hd (cs := #[.slice none 0 0, .slice none 0 0]) (t := 27) ?hr ?_; (case hd => rfl); (case hg => rfl); (case hr => first | (go_simp; done) | (go_simp; rfl)); intro gb147 hg w7 hbox hb; have BK147 := Aside0.mk (hbox); have GW147 := xG HB hg; have GE147 := xG HB hg; replace HB := xS HB hb; have NB146_147 := xN BK146 hg; have NB147_146 := xM BK146 hg; replace BK146 := xB BK146 hb; clear hb hbox hg; have hnb8 := NB146_147.out; have hnc8 := NB147_146.out; have hcz9_0 : w7.cell? ⟨gb146, 0, none⟩ = some (.slice A1_0 l1_0.length c1_0) := b1 BK146 0; have hcz9_1 : w7.cell? ⟨gb146, 1, none⟩ = some (.slice A1_1 l1_1.length c1_1) := b1 BK146 1; have hfz9_0 := blk_frozen BK146.out 0; have hfz9_1 := blk_frozen BK146.out 1) | ((with_reducible refine gate_callee (f := 54) rfl ?_); refine goesL_ (some 7) rfl rfl Try.func54 (by kernel_rfl) rfl #[.agg #[.slice A1_0 l1_0.length c1_0, .slice A1_1 l1_1.length c1_1]] rfl (by (try simp only [m3]); first | done | rfl | (simp only [d2]; rfl)) ?_; (with_reducible refine (spec_l3Right.calls k _ _ l1_0 _ _ l1_1 true _ ?side1 ?side2 ?side3 ?side4 A3.out).mono ?_); (case side1 => exact zC (Kd.C_below HR1_0.out HB.out)); (case side2 => exact HC1_0.out); (case side3 => exact zC (Kd.C_below HR1_1.out HB.out)); (case side4 => exact HC1_1.out); rintro e w10 ⟨rfl, hb⟩; refine ⟨_, rfl, ?_⟩; replace BK146 := xB BK146 hb; replace BK147 := xB BK147 hb; replace HB := xS HB hb; (try clear hb); (try clear hb2); (try clear hk); (try clear hi); have hcz11_0 : w10.cell? ⟨gb147, 0, none⟩ = some (.slice none 0 0) := b1 BK147 0; have hcz11_1 : w10.cell? ⟨gb147, 1, none⟩ = some (.slice none 0 0) := b1 BK147 1; have hfz11_0 := blk_frozen BK147.out 0; have hfz11_1 := blk_frozen BK147.out 1))
   refine bodyPost_ret (results_ct rfl _ _ gb147 27 #[.slice none 0 0, .slice none 0 0] (0, 0) _ rfl (by (with_reducible repeat (first | refine blk_drewN ?_ _ | refine blk_drew ?_ | refine blk_alloc ?_ _)); refine blk_put (cs := #[.slice none 0 0, .slice none 0 0]) ?_ 1 _ rfl; (with_reducible repeat (first | refine blk_drewN ?_ _ | refine blk_drew ?_ | refine blk_alloc ?_ _)); refine blk_put (cs := #[.slice none 0 0, .slice none 0 0]) ?_ 0 _ rfl; (with_reducible repeat (first | refine blk_drewN ?_ _ | refine blk_drew ?_ | refine blk_alloc ?_ _)); exact BK147.out) Try.underlying27 rfl (by kernel_rfl)) rfl ?_; exact ⟨_, _, by first | rfl | (simp [errW_none, errW_some] <;> rfl) | (simp [*, errW_none, errW_some] <;> rfl), by first | exact Kd.R_nil _ _ _ _ _ | exact Kd.N_nil _ _ _ _ _ | exact Kd.V_nil _ _ _ _ _ | exact Kd.Q_nil _ _ _ _ _ | exact Kd.S_nil _ _ _ _ _, by first | exact Kd.R_nil _ _ _ _ _ | exact Kd.N_nil _ _ _ _ _ | exact Kd.V_nil _ _ _ _ _ | exact Kd.Q_nil _ _ _ _ _ | exact Kd.S_nil _ _ _ _ _, by repeat (first | (with_reducible first | exact HB.out | apply below_alloc | apply pw_below_drewN | apply below_drew1 | refine below_set ?_ GE146.out | refine below_set ?_ GE147.out) | exact HB.out)⟩
  ·rw [if_neg c5] at H; have c5b0 : decide (40 < (l0.length : Int)) = false := decide_eq_false c5; have c5b1 : decide (40 < l0.length) = false := decide_eq_false (by omega); clear c5; obtain ⟨y149, hy149⟩ : ∃ y_ : List Int, y_ = (([] : List Int)) := ⟨_, rfl⟩
   replace H : (if y149.length + l0.length < 17592186044416 then ((some (y149 ++ l0 : List Int)).bind fun y152 => (if y152.length + l1_0.length < 17592186044416 then ((some (([] : List Int) : List Int)).bind fun y158 => (if y158.length + l1_1.length < 17592186044416 then ((spec_l3Told.f k (y152 ++ l1_0) (y158 ++ l1_1)).bind fun bt164 => (some (bt164.1, bt164.2.1, bt164.2.2))) else (none))) else (none))) else (none)) = some (r1, r2, r3) := by first | (rw [hy149]; with_reducible exact H) | (have H2_ := (Option.bind_some _ _).symm.trans H; rw [hy149]; with_reducible exact H2_) | (have H2_ := (Option.bind_some _ _).symm.trans H; with_reducible exact H2_) | with_reducible exact H | (rw [hy149]; exact H) | exact H
   have Ny149 := Aside0.mk hy149; clear hy149
   by_cases c12 : y149.length + l0.length < 17592186044416
   ·rw [if_pos c12] at H; have LMc12 := Aside0.mk c12; clear c12; obtain ⟨y152, hy152⟩ : ∃ y_ : List Int, y_ = (y149 ++ l0) := ⟨_, rfl⟩
    replace H : (if y152.length + l1_0.length < 17592186044416 then ((some (([] : List Int) : List Int)).bind fun y158 => (if y158.length + l1_1.length < 17592186044416 then ((spec_l3Told.f k (y152 ++ l1_0) (y158 ++ l1_1)).bind fun bt164 => (some (bt164.1, bt164.2.1, bt164.2.2))) else (none))) else (none)) = some (r1, r2, r3) := by first | (rw [hy152]; with_reducible exact H) | (have H2_ := (Option.bind_some _ _).symm.trans H; rw [hy152]; with_reducible exact H2_) | (have H2_ := (Option.bind_some _ _).symm.trans H; with_reducible exact H2_) | with_reducible exact H | (rw [hy152]; exact H) | exact H
    have Ny152 := Aside0.mk hy152; clear hy152
    by_cases c13 : y152.length + l1_0.length < 17592186044416
    ·rw [if_pos c13] at H; have LMc13 := Aside0.mk c13; clear c13; obtain ⟨y155, hy155⟩ : ∃ y_ : List Int, y_ = (y152 ++ l1_0) := ⟨_, rfl⟩
     replace H : ((some (([] : List Int) : List Int)).bind fun y158 => (if y158.length + l1_1.length < 17592186044416 then ((spec_l3Told.f k y155 (y158 ++ l1_1)).bind fun bt164 => (some (bt164.1, bt164.2.1, bt164.2.2))) else (none))) = some (r1, r2, r3) := by first | (rw [hy155]; with_reducible exact H) | (have H2_ := (Option.bind_some _ _).symm.trans H; rw [hy155]; with_reducible exact H2_) | (have H2_ := (Option.bind_some _ _).symm.trans H; with_reducible exact H2_) | with_reducible exact H | (rw [hy155]; exact H) | exact H
     have Ny155 := Aside0.mk hy155; clear hy155; obtain ⟨y158, hy158⟩ : ∃ y_ : List Int, y_ = (([] : List Int)) := ⟨_, rfl⟩
     replace H : (if y158.length + l1_1.length < 17592186044416 then ((spec_l3Told.f k y155 (y158 ++ l1_1)).bind fun bt164 => (some (bt164.1, bt164.2.1, bt164.2.2))) else (none)) = some (r1, r2, r3) := by first | (rw [hy158]; with_reducible exact H) | (have H2_ := (Option.bind_some _ _).symm.trans H; rw [hy158]; with_reducible exact H2_) | (have H2_ := (Option.bind_some _ _).symm.trans H; with_reducible exact H2_) | with_reducible exact H | (rw [hy158]; exact H) | exact H
     have Ny158 := Aside0.mk hy158; clear hy158
     by_cases c14 : y158.length + l1_1.length < 17592186044416
     ·rw [if_pos c14] at H; have LMc14 := Aside0.mk c14; clear c14; obtain ⟨y161, hy161⟩ : ∃ y_ : List Int, y_ = (y158 ++ l1_1) := ⟨_, rfl⟩
      replace H : ((spec_l3Told.f k y155 y161).bind fun bt164 => (some (bt164.1, bt164.2.1, bt164.2.2))) = some (r1, r2, r3) := by first | (rw [hy161]; with_reducible exact H) | (have H2_ := (Option.bind_some _ _).symm.trans H; rw [hy161]; with_reducible exact H2_) | (have H2_ := (Option.bind_some _ _).symm.trans H; with_reducible exact H2_) | with_reducible exact H | (rw [hy161]; exact H) | exact H
      have Ny161 := Aside0.mk hy161; clear hy161; replace H := Option.bind_eq_some_iff.mp H; obtain ⟨⟨t164, t167, t170⟩, A150, H⟩ := H; replace H : (some (t164, t167, t170)) = some (r1, r2, r3) := H; have A15 := Aside0.mk A150; clear A150; simp only [Option.some.injEq, Prod.mk.injEq] at H; obtain ⟨rfl, rfl, rfl⟩ := H
      go_enter Try.func31, Try.ntmps31
      try go_wp2_with (first | ((with_reducible refine gate_dst (N := 3) rfl ?_); (try (refine gate_guard (by rfl) ?_; dsimp only)); refine box_event ?hg (N := 3) ?hd (cs := #[.slice A1_0 l1_0.length c1_0, .slice A1_1 l1_1.length c1_1]) (t := 27) ?hr ?_; (case hd => rfl); (case hg => rfl); (case hr => first | (go_simp; done) | (go_simp; rfl)); intro gb146 hg w16 hbox hb; have BK146 := Aside0.mk (hbox); have GW146 := xG HB hg; have GE146 := xG HB hg; replace HB := xS HB hb; clear hb hbox hg) | ((with_reducible refine gate_dst (N := 4) rfl ?_); (try (refine gate_guard (by rfl) ?_; dsimp only)); refine box_event ?hg (N := 4) ?hd (cs := #[.slice none 0 0, .slice none 0 0]) (t := 27) ?hr ?_; (case hd => rfl); (case hg => rfl); (case hr => first | (go_simp; done) | (go_simp; rfl)); intro gb147 hg w17 hbox hb; have BK147 := Aside0.mk (hbox); have GW147 := xG HB hg; have GE147 := xG HB hg; replace HB := xS HB hb; have NB146_147 := xN BK146 hg; have NB147_146 := xM BK146 hg; replace BK146 := xB BK146 hb; clear hb hbox hg; have hnb18 := NB146_147.out; have hnc18 := NB147_146.out; have hcz19_0 : w17.cell? ⟨gb146, 0, none⟩ = some (.slice A1_0 l1_0.length c1_0) := b1 BK146 0; have hcz19_1 : w17.cell? ⟨gb146, 1, none⟩ = some (.slice A1_1 l1_1.length c1_1) := b1 BK146 1; have hfz19_0 := blk_frozen BK146.out 0; have hfz19_1 := blk_frozen BK146.out 1) | ((with_reducible refine gate_callee (f := 54) rfl ?_); refine goesL_ (some 7) rfl rfl Try.func54 (by kernel_rfl) rfl #[.agg #[.slice A1_0 l1_0.length c1_0, .slice A1_1 l1_1.length c1_1]] rfl (by (try simp only [m3]); first | done | rfl | (simp only [d2]; rfl)) ?_; (with_reducible refine (spec_l3Right.calls k _ _ l1_0 _ _ l1_1 true _ ?side1 ?side2 ?side3 ?side4 A3.out).mono ?_); (case side1 => exact zC (Kd.C_below HR1_0.out HB.out)); (case side2 => exact HC1_0.out); (case side3 => exact zC (Kd.C_below HR1_1.out HB.out)); (case side4 => exact HC1_1.out); rintro e w20 ⟨rfl, hb⟩; refine ⟨_, rfl, ?_⟩; replace BK146 := xB BK146 hb; replace BK147 := xB BK147 hb; replace HB := xS HB hb; (try clear hb); (try clear hb2); (try clear hk); (try clear hi)))
      replace BK146 := Aside0.mk (blk_drew BK146.out); replace BK147 := Aside0.mk (blk_drew BK147.out); replace HB := Aside0.mk (below_drew1 HB.out); refine start_ (n := 16) (S := fun w' => w'.cell? ⟨gb146, 0, none⟩ = some (.slice A1_0 l1_0.length c1_0) ∧ w'.cell? ⟨gb146, 1, none⟩ = some (.slice A1_1 l1_1.length c1_1)) (ds := []) bl0 (by kernel_rfl) rfl rfl ⟨b1 BK146 0, b1 BK146 1⟩ (fun hHeld => ?_); refine with_tabW spec_WordJoin.tab3 spec_WordJoin.bits3 (fun HT_ HW_ => ?_); generalize w20.drew = w21 at BK146 BK147 HB hHeld ⊢
      refine pu 1 (some 16) bl1 HT_ ?_ rfl rfl (.inl ⟨by rfl, ?_⟩) ?_ ?_ ?_; rotate_left; (intro w'; go_simp; with_reducible rfl); rotate_left; (simp only [Act.put, q5]; rfl)
      refine pu 3 (some 18) bl2 HT_ ?_ rfl rfl (.inl ⟨by rfl, ?_⟩) ?_ ?_ ?_; rotate_left; (intro w'; go_simp; with_reducible rfl); rotate_left; (simp only [Act.put, q5]; rfl)
      refine pu 7 (some 22) bl3 HT_ ?_ rfl rfl (.inl ⟨by rfl, ?_⟩) ?_ ?_ ?_; rotate_left; (intro w'; go_simp; with_reducible rfl); rotate_left; (simp only [Act.put, q5]; rfl)
      refine take_ (i := 4) (N := some 19) (v := ?_) (a' := ?_) bl4 rfl rfl (take_ofW HT_.out HW_.out (by kernel_rfl)) (fun _ _ _ h => h) (Or.inl ⟨by rfl, ?_⟩) hHeld ?_ ?_; rotate_left
      ·rintro w' ⟨s0, s1⟩; go_simp; with_reducible rfl
      rotate_left
      ·simp only [Act.put, q5]; rfl
      refine take_ (i := 8) (N := some 23) (v := ?_) (a' := ?_) bl5 rfl rfl (take_ofW HT_.out HW_.out (by kernel_rfl)) (fun _ _ _ h => h) (Or.inl ⟨by rfl, ?_⟩) hHeld ?_ ?_; rotate_left
      ·rintro w' ⟨s0, s1⟩; go_simp; with_reducible rfl
      rotate_left
      ·simp only [Act.put, q5]; rfl
      refine join_ (σ := Value × Value × Value × Value) 7 bl6 (fun s_ => [(15, s_.1), (17, s_.2.1), (20, s_.2.2.1), (21, s_.2.2.2)]) (fun s_ w' => (w'.cell? ⟨gb146, 0, none⟩ = some (.slice A1_0 l1_0.length c1_0) ∧ w'.cell? ⟨gb146, 1, none⟩ = some (.slice A1_1 l1_1.length c1_1)) ∧ (Kd.R (Kd.int .i64) 3 w' w.heap.size (fun k_ => some k_ ≠ (s_.2.2.2 : Value).ownBlock) s_.2.2.1 y155) ∧ (Kd.R (Kd.int .i64) 3 w' w.heap.size (fun k_ => some k_ ≠ (s_.2.2.1 : Value).ownBlock) s_.2.2.2 y158) ∧ (w'.heap[gb146]? = some (.cells #[.slice A1_0 l1_0.length c1_0, .slice A1_1 l1_1.length c1_1] 27 (0, 0))) ∧ (w'.heap[gb147]? = some (.cells #[.slice none 0 0, .slice none 0 0] 27 (0, 0))) ∧ (Below w.heap.size w w')) ?_ ?_; rotate_left
      ·intro hCont; refine two_ (i := 0) (j := 6) (Ni := some 15) (Nj := some 21) bl7 bl8 rfl rfl rfl rfl (two_of HT_.out (by kernel_rfl)) (by decide) (by decide) (fun K hK => ?_) (fun K hK => ?_)
       ·skip
        refine Kd.R_lit_step (Kd.int .i64) _ 3 ?hg (N := 15) ?hd (xs := ([] : List Int)) (inner := []) (ok := fun _ => True) (okp := fun _ => True) ?hr ?hp (fun _ hk => hk) trivial (Below.refl _ _) (Nat.le_refl _) (by simp) ?_; (case hd => rfl); (case hg => rfl); (case hr => first | (go_simp; done) | (go_simp; rfl)); (case hp => exact (Reps.none _ _))
        intro v150 w22 ho23 hb hg_ hnew_; clear hg_ hnew_
        (first | rw [← Ny149.out] at ho23 | (simp only [Int.reduceToNat] at ho23; rw [← Ny149.out] at ho23))
        have HO151 := Aside0.mk (Kd.R_lower ho23 (below_size (zS HB.out))); replace BK146 := xB BK146 hb; replace BK147 := xB BK147 hb; replace HB := xS HB hb; clear hb ho23; refine hK.out _ _ ⟨b1 BK146 0, b1 BK146 1⟩ (fun hHeld => ?_); clear hK K; refine norm_ (a' := ?_) ?_ ?_; rotate_left
        ·show Act.put _ (some 15) _ = _; simp only [Act.put, q5]; rfl
        refine two_ (i := 2) (j := 6) (Ni := some 17) (Nj := some 21) bl9 bl10 rfl rfl rfl rfl (two_of HT_.out (by kernel_rfl)) (by decide) (by decide) (fun K hK => ?_) (fun K hK => ?_)
        ·skip
         refine Kd.R_append_rows_step (Kd.int .i64) (w0 := w) w.heap.size (by rfl) (.tmp 15) (.tmp 16) 22 3 (.int .i64 0) 8 rfl Try.underlying22 info3 rfl (by decide) (by omega) v150 y149 l0 _ _ _ (fun _ => True) (fun _ => False) rfl rfl ?aO ?aR (fun _ _ h => h) (fun _ h => h.elim) ?aF ?aB ?aS ?aL ?_
         (case aR => repeat (first | exact (Kd.C_below HR0.out HB.out) | (with_reducible refine Kd.C_alloc ?_ _) | (with_reducible refine Kd.C_drewN ?_ _) | (with_reducible refine Kd.C_drew ?_)))
         (case aB => exact (zS HB.out))
         (case aF => exact (fun _ _ => trivial))
         (case aO => exact (zR HO151.out))
         (case aS => exact (below_size (zS HB.out)))
         (case aL => have := LMc12.out; omega)
         intro v153 w24 ho hb hg hat; rw [← Ny152.out] at ho; have n0_ := Aside0.mk (blk_grown (g := gb146) (o := .cells #[.slice A1_0 l1_0.length c1_0, .slice A1_1 l1_1.length c1_1] 27 (0, 0)) (zB BK146.out) hg (Kd.R_ne HO151.out BK146.out (by decide))); have n1_ := Aside0.mk (blk_grown (g := gb147) (o := .cells #[.slice none 0 0, .slice none 0 0] 27 (0, 0)) (zB BK147.out) hg (Kd.R_ne HO151.out BK147.out (by decide))); have n2_ := Aside0.mk (hb); have n3_ := Aside0.mk (ho); clear BK146; clear BK147; clear HB; clear HO151; have BK146 := n0_; have BK147 := n1_; have HB := n2_; have HO154 := n3_; clear n0_ n1_ n2_ n3_; clear ho hb hg hat; refine hK.out _ _ ⟨b1 BK146 0, b1 BK146 1⟩ (fun hHeld => ?_); clear hK K; refine norm_ (a' := ?_) ?_ ?_; rotate_left
         ·show Act.put _ (some 17) _ = _; simp only [Act.put, q5]; rfl
         refine two_ (i := 5) (j := 6) (Ni := some 20) (Nj := some 21) bl11 bl12 rfl rfl rfl rfl (two_of HT_.out (by kernel_rfl)) (by decide) (by decide) (fun K hK => ?_) (fun K hK => ?_)
         ·skip
          refine Kd.R_append_rows_step (Kd.int .i64) (w0 := w) w.heap.size (by rfl) (.tmp 17) (.tmp 19) 22 3 (.int .i64 0) 8 rfl Try.underlying22 info3 rfl (by decide) (by omega) v153 y152 l1_0 _ _ _ (fun _ => True) (fun _ => False) rfl rfl ?aO ?aR (fun _ _ h => h) (fun _ h => h.elim) ?aF ?aB ?aS ?aL ?_
          (case aR => repeat (first | exact (Kd.C_below HR1_0.out HB.out) | (with_reducible refine Kd.C_alloc ?_ _) | (with_reducible refine Kd.C_drewN ?_ _) | (with_reducible refine Kd.C_drew ?_)))
          (case aB => exact (zS HB.out))
          (case aF => exact (fun _ _ => trivial))
          (case aO => exact (zR HO154.out))
          (case aS => exact (below_size (zS HB.out)))
          (case aL => have := LMc13.out; omega)
          intro v156 w25 ho hb hg hat; rw [← Ny155.out] at ho; have n0_ := Aside0.mk (blk_grown (g := gb146) (o := .cells #[.slice A1_0 l1_0.length c1_0, .slice A1_1 l1_1.length c1_1] 27 (0, 0)) (zB BK146.out) hg (Kd.R_ne HO154.out BK146.out (by decide))); have n1_ := Aside0.mk (blk_grown (g := gb147) (o := .cells #[.slice none 0 0, .slice none 0 0] 27 (0, 0)) (zB BK147.out) hg (Kd.R_ne HO154.out BK147.out (by decide))); have n2_ := Aside0.mk (hb); have n3_ := Aside0.mk (ho); clear BK146; clear BK147; clear HB; clear HO154; have BK146 := n0_; have BK147 := n1_; have HB := n2_; have HO157 := n3_; clear n0_ n1_ n2_ n3_; clear ho hb hg hat; refine hK.out _ _ ⟨b1 BK146 0, b1 BK146 1⟩ (fun hHeld => ?_); clear hK K; refine norm_ (a' := ?_) ?_ ?_; rotate_left
          ·show Act.put _ (some 20) _ = _; simp only [Act.put, q5]; rfl
          refine one_ (i := 6) (N := some 21) bl6 rfl rfl (one_of HT_.out (by kernel_rfl)) (by decide) (fun K hK => ?_)
          refine Kd.R_lit_step (Kd.int .i64) _ 3 ?hg (N := 21) ?hd (xs := ([] : List Int)) (inner := []) (ok := fun _ => True) (okp := fun _ => True) ?hr ?hp (fun _ hk => hk) trivial (Below.refl _ _) (Nat.le_refl _) (by simp) ?_; (case hd => rfl); (case hg => rfl); (case hr => first | (go_simp; done) | (go_simp; rfl)); (case hp => exact (Reps.none _ _))
          intro v159 w26 ho27 hb hg_ hnew_; clear hg_ hnew_
          (first | rw [← Ny158.out] at ho27 | (simp only [Int.reduceToNat] at ho27; rw [← Ny158.out] at ho27))
          have HO160 := Aside0.mk (Kd.R_lower (Kd.R_new' ho27 (Kd.R_lt (zR HO157.out))) (below_size (zS HB.out))); replace HO157 := xE HO157 ho27 hb; replace BK146 := xB BK146 hb; replace BK147 := xB BK147 hb; replace HB := xS HB hb; clear hb ho27; refine hK.out _ _ ⟨b1 BK146 0, b1 BK146 1⟩ (fun hHeld => ?_); clear hK K; refine norm_ (a' := ?_) ?_ ?_; rotate_left
          ·show Act.put _ (some 21) _ = _; simp only [Act.put, q5]; rfl
          exact norm_ (by simp only [putAll, Act.put, q3]) (hCont (v150, v153, v156, v159) _ ⟨hHeld, (by (with_reducible repeat (first | apply Kd.R_alloc | apply Kd.R_drewN | apply Kd.R_drew)); exact Kd.R_mono HO157.out (fun _ hk => hk.2)), (by (with_reducible repeat (first | apply Kd.R_alloc | apply Kd.R_drewN | apply Kd.R_drew)); exact Kd.R_mono HO160.out (fun _ hk => hk.2)), (zB BK146.out), (zB BK147.out), (zS HB.out)⟩)
         ·skip
          refine Kd.R_lit_step (Kd.int .i64) _ 3 ?hg (N := 21) ?hd (xs := ([] : List Int)) (inner := []) (ok := fun _ => True) (okp := fun _ => True) ?hr ?hp (fun _ hk => hk) trivial (Below.refl _ _) (Nat.le_refl _) (by simp) ?_; (case hd => rfl); (case hg => rfl); (case hr => first | (go_simp; done) | (go_simp; rfl)); (case hp => exact (Reps.none _ _))
          intro v159 w25 ho26 hb hg_ hnew_; clear hg_ hnew_
          (first | rw [← Ny158.out] at ho26 | (simp only [Int.reduceToNat] at ho26; rw [← Ny158.out] at ho26))
          have HO160 := Aside0.mk (Kd.R_lower (Kd.R_new' ho26 (Kd.R_lt (zR HO154.out))) (below_size (zS HB.out))); replace HO154 := xE HO154 ho26 hb; replace BK146 := xB BK146 hb; replace BK147 := xB BK147 hb; replace HB := xS HB hb; clear hb ho26; refine hK.out _ _ ⟨b1 BK146 0, b1 BK146 1⟩ (fun hHeld => ?_); clear hK K; refine norm_ (a' := ?_) ?_ ?_; rotate_left
          ·show Act.put _ (some 21) _ = _; simp only [Act.put, q5]; rfl
          refine one_ (i := 5) (N := some 20) bl6 rfl rfl (one_of HT_.out (by kernel_rfl)) (by decide) (fun K hK => ?_); refine Kd.R_append_rows_step (Kd.int .i64) (w0 := w) w.heap.size (by rfl) (.tmp 17) (.tmp 19) 22 3 (.int .i64 0) 8 rfl Try.underlying22 info3 rfl (by decide) (by omega) v153 y152 l1_0 _ _ _ (fun k_ => some k_ ≠ (v159 : Value).ownBlock) (fun _ => False) rfl rfl ?aO ?aR (fun _ _ h => h) (fun _ h => h.elim) ?aF ?aB ?aS ?aL ?_
          (case aR => repeat (first | exact (Kd.C_below HR1_0.out HB.out) | (with_reducible refine Kd.C_alloc ?_ _) | (with_reducible refine Kd.C_drewN ?_ _) | (with_reducible refine Kd.C_drew ?_)))
          (case aB => exact (zS HB.out))
          (case aF => exact (fun k_ hk => Kd.fresh' (Kd.R_lt (zR HO160.out)) k_ hk))
          (case aO => exact (by (with_reducible repeat (first | apply Kd.R_alloc | apply Kd.R_drewN | apply Kd.R_drew)); exact Kd.R_mono HO154.out (fun _ hk => hk.2)))
          (case aS => exact (below_size (zS HB.out)))
          (case aL => have := LMc13.out; omega)
          intro v156 w27 ho hb hg hat; rw [← Ny155.out] at ho; have n0_ := Aside0.mk (blk_grown (g := gb146) (o := .cells #[.slice A1_0 l1_0.length c1_0, .slice A1_1 l1_1.length c1_1] 27 (0, 0)) (zB BK146.out) hg (Kd.R_ne HO154.out BK146.out (by decide))); have n1_ := Aside0.mk (blk_grown (g := gb147) (o := .cells #[.slice none 0 0, .slice none 0 0] 27 (0, 0)) (zB BK147.out) hg (Kd.R_ne HO154.out BK147.out (by decide))); have n2_ := Aside0.mk (Kd.R_after (ok := (fun _ => True)) (zR HO160.out) hg hat); have n3_ := Aside0.mk (hb); have n4_ := Aside0.mk (ho); clear BK146; clear BK147; clear HO160; clear HB; clear HO154; have BK146 := n0_; have BK147 := n1_; have HO160 := n2_; have HB := n3_; have HO157 := n4_; clear n0_ n1_ n2_ n3_ n4_; clear ho hb hg hat; refine hK.out _ _ ⟨b1 BK146 0, b1 BK146 1⟩ (fun hHeld => ?_); clear hK K; refine norm_ (a' := ?_) ?_ ?_; rotate_left
          ·show Act.put _ (some 20) _ = _; simp only [Act.put, q5]; rfl
          exact norm_ (by simp only [putAll, Act.put, q3]) (hCont (v150, v153, v156, v159) _ ⟨hHeld, (zR HO157.out), (by (with_reducible repeat (first | apply Kd.R_alloc | apply Kd.R_drewN | apply Kd.R_drew)); exact Kd.R_mono HO160.out (fun _ hk => hk.2)), (zB BK146.out), (zB BK147.out), (zS HB.out)⟩)
        ·skip
         refine Kd.R_lit_step (Kd.int .i64) _ 3 ?hg (N := 21) ?hd (xs := ([] : List Int)) (inner := []) (ok := fun _ => True) (okp := fun _ => True) ?hr ?hp (fun _ hk => hk) trivial (Below.refl _ _) (Nat.le_refl _) (by simp) ?_; (case hd => rfl); (case hg => rfl); (case hr => first | (go_simp; done) | (go_simp; rfl)); (case hp => exact (Reps.none _ _))
         intro v159 w24 ho25 hb hg_ hnew_; clear hg_ hnew_
         (first | rw [← Ny158.out] at ho25 | (simp only [Int.reduceToNat] at ho25; rw [← Ny158.out] at ho25))
         have HO160 := Aside0.mk (Kd.R_lower (Kd.R_new' ho25 (Kd.R_lt (zR HO151.out))) (below_size (zS HB.out))); replace HO151 := xE HO151 ho25 hb; replace BK146 := xB BK146 hb; replace BK147 := xB BK147 hb; replace HB := xS HB hb; clear hb ho25; refine hK.out _ _ ⟨b1 BK146 0, b1 BK146 1⟩ (fun hHeld => ?_); clear hK K; refine norm_ (a' := ?_) ?_ ?_; rotate_left
         ·show Act.put _ (some 21) _ = _; simp only [Act.put, q5]; rfl
         refine one_ (i := 2) (N := some 17) bl12 rfl rfl (one_of HT_.out (by kernel_rfl)) (by decide) (fun K hK => ?_); refine Kd.R_append_rows_step (Kd.int .i64) (w0 := w) w.heap.size (by rfl) (.tmp 15) (.tmp 16) 22 3 (.int .i64 0) 8 rfl Try.underlying22 info3 rfl (by decide) (by omega) v150 y149 l0 _ _ _ (fun k_ => some k_ ≠ (v159 : Value).ownBlock) (fun _ => False) rfl rfl ?aO ?aR (fun _ _ h => h) (fun _ h => h.elim) ?aF ?aB ?aS ?aL ?_
         (case aR => repeat (first | exact (Kd.C_below HR0.out HB.out) | (with_reducible refine Kd.C_alloc ?_ _) | (with_reducible refine Kd.C_drewN ?_ _) | (with_reducible refine Kd.C_drew ?_)))
         (case aB => exact (zS HB.out))
         (case aF => exact (fun k_ hk => Kd.fresh' (Kd.R_lt (zR HO160.out)) k_ hk))
         (case aO => exact (by (with_reducible repeat (first | apply Kd.R_alloc | apply Kd.R_drewN | apply Kd.R_drew)); exact Kd.R_mono HO151.out (fun _ hk => hk.2)))
         (case aS => exact (below_size (zS HB.out)))
         (case aL => have := LMc12.out; omega)
         intro v153 w26 ho hb hg hat; rw [← Ny152.out] at ho; have n0_ := Aside0.mk (blk_grown (g := gb146) (o := .cells #[.slice A1_0 l1_0.length c1_0, .slice A1_1 l1_1.length c1_1] 27 (0, 0)) (zB BK146.out) hg (Kd.R_ne HO151.out BK146.out (by decide))); have n1_ := Aside0.mk (blk_grown (g := gb147) (o := .cells #[.slice none 0 0, .slice none 0 0] 27 (0, 0)) (zB BK147.out) hg (Kd.R_ne HO151.out BK147.out (by decide))); have n2_ := Aside0.mk (Kd.R_after (ok := (fun _ => True)) (zR HO160.out) hg hat); have n3_ := Aside0.mk (hb); have n4_ := Aside0.mk (ho); clear BK146; clear BK147; clear HO160; clear HB; clear HO151; have BK146 := n0_; have BK147 := n1_; have HO160 := n2_; have HB := n3_; have HO154 := n4_; clear n0_ n1_ n2_ n3_ n4_; clear ho hb hg hat; refine hK.out _ _ ⟨b1 BK146 0, b1 BK146 1⟩ (fun hHeld => ?_); clear hK K; refine norm_ (a' := ?_) ?_ ?_; rotate_left
         ·show Act.put _ (some 17) _ = _; simp only [Act.put, q5]; rfl
         refine one_ (i := 5) (N := some 20) bl6 rfl rfl (one_of HT_.out (by kernel_rfl)) (by decide) (fun K hK => ?_); refine Kd.R_append_rows_step (Kd.int .i64) (w0 := w) w.heap.size (by rfl) (.tmp 17) (.tmp 19) 22 3 (.int .i64 0) 8 rfl Try.underlying22 info3 rfl (by decide) (by omega) v153 y152 l1_0 _ _ _ (fun k_ => some k_ ≠ (v159 : Value).ownBlock) (fun _ => False) rfl rfl ?aO ?aR (fun _ _ h => h) (fun _ h => h.elim) ?aF ?aB ?aS ?aL ?_
         (case aR => repeat (first | exact (Kd.C_below HR1_0.out HB.out) | (with_reducible refine Kd.C_alloc ?_ _) | (with_reducible refine Kd.C_drewN ?_ _) | (with_reducible refine Kd.C_drew ?_)))
         (case aB => exact (zS HB.out))
         (case aF => exact (fun k_ hk => Kd.fresh' (Kd.R_lt (zR HO160.out)) k_ hk))
         (case aO => exact (zR HO154.out))
         (case aS => exact (below_size (zS HB.out)))
         (case aL => have := LMc13.out; omega)
         intro v156 w27 ho hb hg hat; rw [← Ny155.out] at ho; have n0_ := Aside0.mk (blk_grown (g := gb146) (o := .cells #[.slice A1_0 l1_0.length c1_0, .slice A1_1 l1_1.length c1_1] 27 (0, 0)) (zB BK146.out) hg (Kd.R_ne HO154.out BK146.out (by decide))); have n1_ := Aside0.mk (blk_grown (g := gb147) (o := .cells #[.slice none 0 0, .slice none 0 0] 27 (0, 0)) (zB BK147.out) hg (Kd.R_ne HO154.out BK147.out (by decide))); have n2_ := Aside0.mk (Kd.R_after (ok := (fun _ => True)) (zR HO160.out) hg hat); have n3_ := Aside0.mk (hb); have n4_ := Aside0.mk (ho); clear BK146; clear BK147; clear HO160; clear HB; clear HO154; have BK146 := n0_; have BK147 := n1_; have HO160 := n2_; have HB := n3_; have HO157 := n4_; clear n0_ n1_ n2_ n3_ n4_; clear ho hb hg hat; refine hK.out _ _ ⟨b1 BK146 0, b1 BK146 1⟩ (fun hHeld => ?_); clear hK K; refine norm_ (a' := ?_) ?_ ?_; rotate_left
         ·show Act.put _ (some 20) _ = _; simp only [Act.put, q5]; rfl
         exact norm_ (by simp only [putAll, Act.put, q3]) (hCont (v150, v153, v156, v159) _ ⟨hHeld, (zR HO157.out), (by (with_reducible repeat (first | apply Kd.R_alloc | apply Kd.R_drewN | apply Kd.R_drew)); exact Kd.R_mono HO160.out (fun _ hk => hk.2)), (zB BK146.out), (zB BK147.out), (zS HB.out)⟩)
       ·skip
        refine Kd.R_lit_step (Kd.int .i64) _ 3 ?hg (N := 21) ?hd (xs := ([] : List Int)) (inner := []) (ok := fun _ => True) (okp := fun _ => True) ?hr ?hp (fun _ hk => hk) trivial (Below.refl _ _) (Nat.le_refl _) (by simp) ?_; (case hd => rfl); (case hg => rfl); (case hr => first | (go_simp; done) | (go_simp; rfl)); (case hp => exact (Reps.none _ _))
        intro v159 w22 ho23 hb hg_ hnew_; clear hg_ hnew_
        (first | rw [← Ny158.out] at ho23 | (simp only [Int.reduceToNat] at ho23; rw [← Ny158.out] at ho23))
        have HO160 := Aside0.mk (Kd.R_lower ho23 (below_size (zS HB.out))); replace BK146 := xB BK146 hb; replace BK147 := xB BK147 hb; replace HB := xS HB hb; clear hb ho23; refine hK.out _ _ ⟨b1 BK146 0, b1 BK146 1⟩ (fun hHeld => ?_); clear hK K; refine norm_ (a' := ?_) ?_ ?_; rotate_left
        ·show Act.put _ (some 21) _ = _; simp only [Act.put, q5]; rfl
        refine one_ (i := 0) (N := some 15) bl10 rfl rfl (one_of HT_.out (by kernel_rfl)) (by decide) (fun K hK => ?_)
        refine Kd.R_lit_step (Kd.int .i64) _ 3 ?hg (N := 15) ?hd (xs := ([] : List Int)) (inner := []) (ok := fun _ => True) (okp := fun _ => True) ?hr ?hp (fun _ hk => hk) trivial (Below.refl _ _) (Nat.le_refl _) (by simp) ?_; (case hd => rfl); (case hg => rfl); (case hr => first | (go_simp; done) | (go_simp; rfl)); (case hp => exact (Reps.none _ _))
        intro v150 w24 ho25 hb hg_ hnew_; clear hg_ hnew_
        (first | rw [← Ny149.out] at ho25 | (simp only [Int.reduceToNat] at ho25; rw [← Ny149.out] at ho25))
        have HO151 := Aside0.mk (Kd.R_lower (Kd.R_new' ho25 (Kd.R_lt (zR HO160.out))) (below_size (zS HB.out))); replace HO160 := xE HO160 ho25 hb; replace BK146 := xB BK146 hb; replace BK147 := xB BK147 hb; replace HB := xS HB hb; clear hb ho25; refine hK.out _ _ ⟨b1 BK146 0, b1 BK146 1⟩ (fun hHeld => ?_); clear hK K; refine norm_ (a' := ?_) ?_ ?_; rotate_left
        ·show Act.put _ (some 15) _ = _; simp only [Act.put, q5]; rfl
        refine one_ (i := 2) (N := some 17) bl12 rfl rfl (one_of HT_.out (by kernel_rfl)) (by decide) (fun K hK => ?_); refine Kd.R_append_rows_step (Kd.int .i64) (w0 := w) w.heap.size (by rfl) (.tmp 15) (.tmp 16) 22 3 (.int .i64 0) 8 rfl Try.underlying22 info3 rfl (by decide) (by omega) v150 y149 l0 _ _ _ (fun k_ => some k_ ≠ (v159 : Value).ownBlock) (fun _ => False) rfl rfl ?aO ?aR (fun _ _ h => h) (fun _ h => h.elim) ?aF ?aB ?aS ?aL ?_
        (case aR => repeat (first | exact (Kd.C_below HR0.out HB.out) | (with_reducible refine Kd.C_alloc ?_ _) | (with_reducible refine Kd.C_drewN ?_ _) | (with_reducible refine Kd.C_drew ?_)))
        (case aB => exact (zS HB.out))
        (case aF => exact (fun k_ hk => Kd.fresh' (Kd.R_lt (zR HO160.out)) k_ hk))
        (case aO => exact (by (with_reducible repeat (first | apply Kd.R_alloc | apply Kd.R_drewN | apply Kd.R_drew)); exact Kd.R_mono HO151.out (fun _ hk => hk.2)))
        (case aS => exact (below_size (zS HB.out)))
        (case aL => have := LMc12.out; omega)
        intro v153 w26 ho hb hg hat; rw [← Ny152.out] at ho; have n0_ := Aside0.mk (blk_grown (g := gb146) (o := .cells #[.slice A1_0 l1_0.length c1_0, .slice A1_1 l1_1.length c1_1] 27 (0, 0)) (zB BK146.out) hg (Kd.R_ne HO151.out BK146.out (by decide))); have n1_ := Aside0.mk (blk_grown (g := gb147) (o := .cells #[.slice none 0 0, .slice none 0 0] 27 (0, 0)) (zB BK147.out) hg (Kd.R_ne HO151.out BK147.out (by decide))); have n2_ := Aside0.mk (Kd.R_after (ok := (fun _ => True)) (zR HO160.out) hg hat); have n3_ := Aside0.mk (hb); have n4_ := Aside0.mk (ho); clear BK146; clear BK147; clear HO160; clear HB; clear HO151; have BK146 := n0_; have BK147 := n1_; have HO160 := n2_; have HB := n3_; have HO154 := n4_; clear n0_ n1_ n2_ n3_ n4_; clear ho hb hg hat; refine hK.out _ _ ⟨b1 BK146 0, b1 BK146 1⟩ (fun hHeld => ?_); clear hK K; refine norm_ (a' := ?_) ?_ ?_; rotate_left
        ·show Act.put _ (some 17) _ = _; simp only [Act.put, q5]; rfl
        refine one_ (i := 5) (N := some 20) bl6 rfl rfl (one_of HT_.out (by kernel_rfl)) (by decide) (fun K hK => ?_); refine Kd.R_append_rows_step (Kd.int .i64) (w0 := w) w.heap.size (by rfl) (.tmp 17) (.tmp 19) 22 3 (.int .i64 0) 8 rfl Try.underlying22 info3 rfl (by decide) (by omega) v153 y152 l1_0 _ _ _ (fun k_ => some k_ ≠ (v159 : Value).ownBlock) (fun _ => False) rfl rfl ?aO ?aR (fun _ _ h => h) (fun _ h => h.elim) ?aF ?aB ?aS ?aL ?_
        (case aR => repeat (first | exact (Kd.C_below HR1_0.out HB.out) | (with_reducible refine Kd.C_alloc ?_ _) | (with_reducible refine Kd.C_drewN ?_ _) | (with_reducible refine Kd.C_drew ?_)))
        (case aB => exact (zS HB.out))
        (case aF => exact (fun k_ hk => Kd.fresh' (Kd.R_lt (zR HO160.out)) k_ hk))
        (case aO => exact (zR HO154.out))
        (case aS => exact (below_size (zS HB.out)))
        (case aL => have := LMc13.out; omega)
        intro v156 w27 ho hb hg hat; rw [← Ny155.out] at ho; have n0_ := Aside0.mk (blk_grown (g := gb146) (o := .cells #[.slice A1_0 l1_0.length c1_0, .slice A1_1 l1_1.length c1_1] 27 (0, 0)) (zB BK146.out) hg (Kd.R_ne HO154.out BK146.out (by decide))); have n1_ := Aside0.mk (blk_grown (g := gb147) (o := .cells #[.slice none 0 0, .slice none 0 0] 27 (0, 0)) (zB BK147.out) hg (Kd.R_ne HO154.out BK147.out (by decide))); have n2_ := Aside0.mk (Kd.R_after (ok := (fun _ => True)) (zR HO160.out) hg hat); have n3_ := Aside0.mk (hb); have n4_ := Aside0.mk (ho); clear BK146; clear BK147; clear HO160; clear HB; clear HO154; have BK146 := n0_; have BK147 := n1_; have HO160 := n2_; have HB := n3_; have HO157 := n4_; clear n0_ n1_ n2_ n3_ n4_; clear ho hb hg hat; refine hK.out _ _ ⟨b1 BK146 0, b1 BK146 1⟩ (fun hHeld => ?_); clear hK K; refine norm_ (a' := ?_) ?_ ?_; rotate_left
        ·show Act.put _ (some 20) _ = _; simp only [Act.put, q5]; rfl
        exact norm_ (by simp only [putAll, Act.put, q3]) (hCont (v150, v153, v156, v159) _ ⟨hHeld, (zR HO157.out), (by (with_reducible repeat (first | apply Kd.R_alloc | apply Kd.R_drewN | apply Kd.R_drew)); exact Kd.R_mono HO160.out (fun _ hk => hk.2)), (zB BK146.out), (zB BK147.out), (zS HB.out)⟩)
      rintro ⟨v150, v153, v156, v159⟩ w28 ⟨hS_, h0_, h1_, h2_, h3_, h4_⟩; have n0_ : Aside0 (Kd.R (Kd.int .i64) 3 w28 w.heap.size (fun k_ => some k_ ≠ (v159 : Value).ownBlock) v156 y155) := ⟨h0_⟩; have n1_ : Aside0 (Kd.R (Kd.int .i64) 3 w28 w.heap.size (fun k_ => some k_ ≠ (v156 : Value).ownBlock) v159 y158) := ⟨h1_⟩; have n2_ : Aside0 (w28.heap[gb146]? = some (.cells #[.slice A1_0 l1_0.length c1_0, .slice A1_1 l1_1.length c1_1] 27 (0, 0))) := ⟨h2_⟩; have n3_ : Aside0 (w28.heap[gb147]? = some (.cells #[.slice none 0 0, .slice none 0 0] 27 (0, 0))) := ⟨h3_⟩; have n4_ : Aside0 (Below w.heap.size w w28) := ⟨h4_⟩; clear BK146; clear BK147; clear HB; clear h0_ h1_ h2_ h3_ h4_; have HO157 := n0_; have HO160 := n1_; have BK146 := n2_; have BK147 := n3_; have HB := n4_; clear n0_ n1_ n2_ n3_ n4_; have hHeld : w28.cell? ⟨gb146, 0, none⟩ = some (.slice A1_0 l1_0.length c1_0) ∧ w28.cell? ⟨gb146, 1, none⟩ = some (.slice A1_1 l1_1.length c1_1) := hS_; refine norm_ (a' := ?_) ?_ ?_; rotate_left
      ·simp only [putAll, Act.put, q3]; rfl
      refine one_ (i := 9) (N := some 24) bl13 rfl rfl (one_of HT_.out (by kernel_rfl)) (by decide) (fun K hK => ?_); refine Kd.R_append_rows_step (Kd.int .i64) (w0 := w) w.heap.size (by rfl) (.tmp 21) (.tmp 23) 22 3 (.int .i64 0) 8 rfl Try.underlying22 info3 rfl (by decide) (by omega) v159 y158 l1_1 _ _ _ (fun k_ => some k_ ≠ (v156 : Value).ownBlock) (fun _ => False) rfl rfl ?aO ?aR (fun _ _ h => h) (fun _ h => h.elim) ?aF ?aB ?aS ?aL ?_
      (case aR => repeat (first | exact (Kd.C_below HR1_1.out HB.out) | (with_reducible refine Kd.C_alloc ?_ _) | (with_reducible refine Kd.C_drewN ?_ _) | (with_reducible refine Kd.C_drew ?_)))
      (case aB => exact (zS HB.out))
      (case aF => exact (fun k_ hk => Kd.fresh' (Kd.R_lt (zR HO157.out)) k_ hk))
      (case aO => exact (zR HO160.out))
      (case aS => exact (below_size (zS HB.out)))
      (case aL => have := LMc14.out; omega)
      intro v162 w29 ho hb hg hat; rw [← Ny161.out] at ho; have n0_ := Aside0.mk (blk_grown (g := gb146) (o := .cells #[.slice A1_0 l1_0.length c1_0, .slice A1_1 l1_1.length c1_1] 27 (0, 0)) (zB BK146.out) hg (Kd.R_ne HO160.out BK146.out (by decide))); have n1_ := Aside0.mk (blk_grown (g := gb147) (o := .cells #[.slice none 0 0, .slice none 0 0] 27 (0, 0)) (zB BK147.out) hg (Kd.R_ne HO160.out BK147.out (by decide))); have n2_ := Aside0.mk (Kd.R_after (ok := (fun _ => True)) (by (with_reducible repeat (first | apply Kd.R_alloc | apply Kd.R_drewN | apply Kd.R_drew)); exact Kd.R_mono HO157.out (fun _ hk => ⟨trivial, hk⟩)) hg hat); have n3_ := Aside0.mk (hb); have n4_ := Aside0.mk (ho); clear BK146; clear BK147; clear HO157; clear HB; clear HO160; have BK146 := n0_; have BK147 := n1_; have HO157 := n2_; have HB := n3_; have HO163 := n4_; clear n0_ n1_ n2_ n3_ n4_; clear ho hb hg hat; obtain ⟨Ao30, co30, eo30⟩ := Kd.R_slice HO163.out
      (first | subst eo30 | (injection eo30 with f1_ f2_ f3_; have f4_ := f1_.symm; have f5_ := f3_.symm; clear f1_ f2_ f3_; subst f4_; subst f5_))
      obtain ⟨Ao31, co31, eo31⟩ := Kd.R_slice HO157.out
      (first | subst eo31 | (injection eo31 with f1_ f2_ f3_; have f4_ := f1_.symm; have f5_ := f3_.symm; clear f1_ f2_ f3_; subst f4_; subst f5_))
      refine hK.out _ _ ⟨b1 BK146 0, b1 BK146 1⟩ (fun hHeld => ?_); clear hK K; refine norm_ (a' := ?_) ?_ ?_; rotate_left
      ·show Act.put _ (some 24) _ = _; simp only [Act.put, q5]; rfl
      refine pu 10 (some 25) bl14 HT_ ?_ rfl rfl (.inl ⟨by rfl, ?_⟩) ?_ ?_ ?_; rotate_left; (intro w'; go_simp; with_reducible rfl); rotate_left; (simp only [Act.put, q5]; rfl)
      refine one_ (i := 11) (N := some 26) bl15 rfl rfl (one_of HT_.out (by kernel_rfl)) (by decide) (fun K hK => ?_); refine goes_ Try.func59 (by kernel_rfl) rfl #[.agg #[.slice Ao31 y155.length co31, .slice Ao30 y161.length co30]] (by rfl) rfl rfl (by (try simp only [m3]); first | done | rfl | (simp only [d2]; rfl)) ?_
      with_reducible refine (spec_l3Told.calls k (fun k_ => some k_ = (.slice Ao31 y155.length co31 : Value).ownBlock) (.slice Ao31 y155.length co31) y155 (fun k_ => some k_ = (.slice Ao30 y161.length co30 : Value).ownBlock) (.slice Ao30 y161.length co30) y161 t164 t167 t170 w _ ?side1 ?side2 ?side3 ?side4 ?side5 A15.out).mono ?_
      (case side1 => repeat (first | (with_reducible first | exact HB.out | apply below_alloc | apply pw_below_drewN | apply below_drew1 | refine below_set ?_ GE146.out | refine below_set ?_ GE147.out) | exact HB.out))
      (case side2 => exact Kd.R_tight rfl HO157.out)
      (case side3 => exact fun k_ e_ => (HO157.out.1 k_ e_.symm).2)
      (case side4 => exact Kd.R_tight rfl HO163.out)
      (case side5 => exact fun k_ e_ => (HO163.out.1 k_ e_.symm))
      rintro e w32 ⟨v165, v168, rfl, ho0, ho1, hb, hkp⟩; refine ⟨_, rfl, ?_⟩; have n0_ := Aside0.mk (blk_kept (zB BK146.out) hkp (fun hs_ => Or.elim hs_ (fun e_ => (fun e_ => (Kd.R_ne HO157.out BK146.out (by decide)) e_) e_) (fun e_ => (fun e_ => (Kd.R_ne HO163.out BK146.out (by decide)) e_) e_))); have n1_ := Aside0.mk (blk_kept (zB BK147.out) hkp (fun hs_ => Or.elim hs_ (fun e_ => (fun e_ => (Kd.R_ne HO157.out BK147.out (by decide)) e_) e_) (fun e_ => (fun e_ => (Kd.R_ne HO163.out BK147.out (by decide)) e_) e_))); have n2_ := Aside0.mk (Kd.R_mono (ok' := fun k_ => some k_ ≠ (v168 : Value).ownBlock) ho0 (fun k_ hk_ => hk_.2)); have n3_ := Aside0.mk (Kd.R_mono (ok' := fun k_ => some k_ ≠ (v165 : Value).ownBlock) ho1 (fun k_ hk_ => hk_.2)); have n4_ := Aside0.mk (hb); clear BK146; clear BK147; clear HB; clear HO157; clear HO163; have BK146 := n0_; have BK147 := n1_; have HO166 := n2_; have HO169 := n3_; have HB := n4_; clear n0_ n1_ n2_ n3_ n4_
      (try clear hb)
      (try clear hkp)
      (try clear ho0)
      (try clear ho1)
      obtain ⟨Ao33, co33, eo33⟩ := Kd.R_slice HO166.out
      (first | subst eo33 | (injection eo33 with f1_ f2_ f3_; have f4_ := f1_.symm; have f5_ := f3_.symm; clear f1_ f2_ f3_; subst f4_; subst f5_))
      obtain ⟨Ao35, co35, eo35⟩ := Kd.R_slice HO169.out
      (first | subst eo35 | (injection eo35 with f1_ f2_ f3_; have f4_ := f1_.symm; have f5_ := f3_.symm; clear f1_ f2_ f3_; subst f4_; subst f5_))
      refine hK.out _ _ ⟨b1 BK146 0, b1 BK146 1⟩ (fun hHeld => ?_); clear hK K; refine norm_ (a' := ?_) ?_ ?_; rotate_left
      ·show Act.put _ (some 26) _ = _; simp only [Act.put, q5]; rfl
      refine pu 12 (some 27) bl16 HT_ ?_ rfl rfl (.inl ⟨by rfl, ?_⟩) ?_ ?_ ?_; rotate_left; (intro w'; go_simp; with_reducible rfl); rotate_left; (simp only [Act.put, q5]; rfl)
      refine pu 13 (some 28) bl17 HT_ ?_ rfl rfl (.inl ⟨by rfl, ?_⟩) ?_ ?_ ?_; rotate_left; (intro w'; go_simp; with_reducible rfl); rotate_left; (simp only [Act.put, q5]; rfl)
      refine one_ (i := 14) (N := none) bl18 rfl rfl (one_of HT_.out (by kernel_rfl)) (by decide) (fun K hK => ?_); have hs34 : w32.cell? ⟨gb147, 0, none⟩ = some (.slice none 0 0) := b1 BK147 0; have hfs34 := blk_frozen BK147.out 0; have hns34_0 := NB146_147.out; have hms34_0 := NB147_146.out; have hs36 : w32.cell? ⟨gb147, 1, none⟩ = some (.slice none 0 0) := b1 BK147 1; have hfs36 := blk_frozen BK147.out 1; have hns36_0 := NB146_147.out; have hms36_0 := NB147_146.out; refine skip_ (w1 := ?_) (by rfl) rfl ?_ ?_; rotate_left
      ·go_simp; rfl
      refine hK.out _ _ ⟨((cell_far (p := ⟨gb147, _, none⟩) NB146_147.out _).trans (((cell_far (p := ⟨gb147, _, none⟩) NB146_147.out _).trans (hHeld.1)))), ((cell_far (p := ⟨gb147, _, none⟩) NB146_147.out _).trans (((cell_far (p := ⟨gb147, _, none⟩) NB146_147.out _).trans (hHeld.2))))⟩ (fun hHeld => ?_); clear hK K
      refine pu 15 (some 5) bl19 HT_ ?_ rfl rfl (.inl ⟨by rfl, ?_⟩) ?_ ?_ ?_; rotate_left; (intro w'; go_simp; with_reducible rfl); rotate_left; (simp only [Act.put, q5]; rfl)
      refine done_ (done_of HT_.out (by kernel_rfl)) ?_
      try go_wp2
      refine bodyPost_ret (results_ct rfl _ _ gb147 27 #[.slice Ao33 t164.length co33, .slice Ao35 t167.length co35] (0, 0) _ rfl (by (with_reducible repeat (first | refine blk_drewN ?_ _ | refine blk_drew ?_ | refine blk_alloc ?_ _)); refine blk_put (cs := #[.slice Ao33 t164.length co33, .slice none 0 0]) ?_ 1 _ rfl; (with_reducible repeat (first | refine blk_drewN ?_ _ | refine blk_drew ?_ | refine blk_alloc ?_ _)); refine blk_put (cs := #[.slice none 0 0, .slice none 0 0]) ?_ 0 _ rfl; (with_reducible repeat (first | refine blk_drewN ?_ _ | refine blk_drew ?_ | refine blk_alloc ?_ _)); exact BK147.out) Try.underlying27 rfl (by kernel_rfl)) rfl ?_; exact ⟨_, _, by first | rfl | (simp [errW_none, errW_some] <;> rfl) | (simp [*, errW_none, errW_some] <;> rfl), by (with_reducible repeat (first | apply Kd.R_alloc | apply Kd.R_drewN | apply Kd.R_drew)); exact Kd.R_mono (Kd.R_far (p := ⟨gb147, 1, none⟩) (Kd.R_far (p := ⟨gb147, 0, none⟩) (Kd.R_types HO166.out BK147.out (by decide)) (fun _ hk => hk.2) (.slice Ao33 t164.length co33)) (fun _ hk => hk.2) (.slice Ao35 t167.length co35)) (fun _ hk => hk.1), by (with_reducible repeat (first | apply Kd.R_alloc | apply Kd.R_drewN | apply Kd.R_drew)); exact Kd.R_mono (Kd.R_far (p := ⟨gb147, 1, none⟩) (Kd.R_far (p := ⟨gb147, 0, none⟩) (Kd.R_types HO169.out BK147.out (by decide)) (fun _ hk => hk.2) (.slice Ao33 t164.length co33)) (fun _ hk => hk.2) (.slice Ao35 t167.length co35)) (fun _ hk => hk.1), by repeat (first | (with_reducible first | exact HB.out | apply below_alloc | apply pw_below_drewN | apply below_drew1 | refine below_set ?_ GE146.out | refine below_set ?_ GE147.out) | exact HB.out)⟩
     ·rw [if_neg c14] at H; exact absurd H (by simp)
    ·rw [if_neg c13] at H; exact absurd H (by simp)
   ·rw [if_neg c12] at H; exact absurd H (by simp)
 ·replace c4 := Bool.eq_false_iff.mpr c4; subst c4
  have H1 : (some (([] : List Int), ([] : List Int), false)) = some (r1, r2, r3) := by rw [if_neg (show ¬ (false = true) by decide)] at H; exact H
  clear H; have H := H1; clear H1; simp only [Option.some.injEq, Prod.mk.injEq] at H; obtain ⟨rfl, rfl, rfl⟩ := H
  go_enter Try.func31, Try.ntmps31
  go_wp2_with (first | ((with_reducible refine gate_dst (N := 3) rfl ?_); (try (refine gate_guard (by rfl) ?_; dsimp only)); refine box_event ?hg (N := 3) ?hd (cs := #[.slice A1_0 l1_0.length c1_0, .slice A1_1 l1_1.length c1_1]) (t := 27) ?hr ?_; (case hd => rfl); (case hg => rfl); (case hr => first | (go_simp; done) | (go_simp; rfl)); intro gb146 hg w37 hbox hb; have BK146 := Aside0.mk (hbox); have GW146 := xG HB hg; have GE146 := xG HB hg; replace HB := xS HB hb; clear hb hbox hg) | ((with_reducible refine gate_dst (N := 4) rfl ?_); (try (refine gate_guard (by rfl) ?_; dsimp only)); refine box_event ?hg (N := 4) ?hd (cs := #[.slice none 0 0, .slice none 0 0]) (t := 27) ?hr ?_; (case hd => rfl); (case hg => rfl); (case hr => first | (go_simp; done) | (go_simp; rfl)); intro gb147 hg w38 hbox hb; have BK147 := Aside0.mk (hbox); have GW147 := xG HB hg; have GE147 := xG HB hg; replace HB := xS HB hb; have NB146_147 := xN BK146 hg; have NB147_146 := xM BK146 hg; replace BK146 := xB BK146 hb; clear hb hbox hg; have hnb39 := NB146_147.out; have hnc39 := NB147_146.out; have hcz40_0 : w38.cell? ⟨gb146, 0, none⟩ = some (.slice A1_0 l1_0.length c1_0) := b1 BK146 0; have hcz40_1 : w38.cell? ⟨gb146, 1, none⟩ = some (.slice A1_1 l1_1.length c1_1) := b1 BK146 1; have hfz40_0 := blk_frozen BK146.out 0; have hfz40_1 := blk_frozen BK146.out 1) | ((with_reducible refine gate_callee (f := 54) rfl ?_); refine goesL_ (some 7) rfl rfl Try.func54 (by kernel_rfl) rfl #[.agg #[.slice A1_0 l1_0.length c1_0, .slice A1_1 l1_1.length c1_1]] rfl (by (try simp only [m3]); first | done | rfl | (simp only [d2]; rfl)) ?_; (with_reducible refine (spec_l3Right.calls k _ _ l1_0 _ _ l1_1 false _ ?side1 ?side2 ?side3 ?side4 A3.out).mono ?_); (case side1 => exact zC (Kd.C_below HR1_0.out HB.out)); (case side2 => exact HC1_0.out); (case side3 => exact zC (Kd.C_below HR1_1.out HB.out)); (case side4 => exact HC1_1.out); rintro e w41 ⟨rfl, hb⟩; refine ⟨_, rfl, ?_⟩; replace BK146 := xB BK146 hb; replace BK147 := xB BK147 hb; replace HB := xS HB hb; (try clear hb); (try clear hb2); (try clear hk); (try clear hi); have hcz42_0 : w41.cell? ⟨gb147, 0, none⟩ = some (.slice none 0 0) := b1 BK147 0; have hcz42_1 : w41.cell? ⟨gb147, 1, none⟩ = some (.slice none 0 0) := b1 BK147 1; have hfz42_0 := blk_frozen BK147.out 0; have hfz42_1 := blk_frozen BK147.out 1))
  refine bodyPost_ret (results_ct rfl _ _ gb147 27 #[.slice none 0 0, .slice none 0 0] (0, 0) _ rfl (by (with_reducible repeat (first | refine blk_drewN ?_ _ | refine blk_drew ?_ | refine blk_alloc ?_ _)); refine blk_put (cs := #[.slice none 0 0, .slice none 0 0]) ?_ 1 _ rfl; (with_reducible repeat (first | refine blk_drewN ?_ _ | refine blk_drew ?_ | refine blk_alloc ?_ _)); refine blk_put (cs := #[.slice none 0 0, .slice none 0 0]) ?_ 0 _ rfl; (with_reducible repeat (first | refine blk_drewN ?_ _ | refine blk_drew ?_ | refine blk_alloc ?_ _)); exact BK147.out) Try.underlying27 rfl (by kernel_rfl)) rfl ?_; exact ⟨_, _, by first | rfl | (simp [errW_none, errW_some] <;> rfl) | (simp [*, errW_none, errW_some] <;> rfl), by first | exact Kd.R_nil _ _ _ _ _ | exact Kd.N_nil _ _ _ _ _ | exact Kd.V_nil _ _ _ _ _ | exact Kd.Q_nil _ _ _ _ _ | exact Kd.S_nil _ _ _ _ _, by first | exact Kd.R_nil _ _ _ _ _ | exact Kd.N_nil _ _ _ _ _ | exact Kd.V_nil _ _ _ _ _ | exact Kd.Q_nil _ _ _ _ _ | exact Kd.S_nil _ _ _ _ _, by repeat (first | (with_reducible first | exact HB.out | apply below_alloc | apply pw_below_drewN | apply below_drew1 | refine below_set ?_ GE146.out | refine below_set ?_ GE147.out) | exact HB.out)⟩

/-! ### impl_inRange: function 52 -/
def impl_inRange.f (a0 : Int) (a1 : Int) (a2 : Int) : Option (Bool) := if a0 ≥ a1 then (some (decide (a0 ≤ a2))) else (some false)
set_option maxHeartbeats 8000000 in
set_option maxRecDepth 100000 in
theorem impl_inRange.calls (a0 : Int) (a1 : Int) (a2 : Int) (r : Bool) (w : World) (h : impl_inRange.f a0 a1 a2 = some r) :
    Calls Try.prog 52 #[.int .i64 a0, .int .i64 a1, .int .i64 a2] w fun e w' => e = .returned (.bool r) ∧ Drawn0 w w' := by
  have H : (if a0 ≥ a1 then (some (decide (a0 ≤ a2))) else (some false)) = some r := h
  clear h
  by_cases c4 : a0 ≥ a1
  · rw [if_pos c4] at H
    have c4b0 : decide (a1 ≤ a0) = true := decide_eq_true c4
    clear c4
    obtain rfl := Option.some.inj H
    go_enter Try.func52, Try.ntmps52
    go_wp2
    go_ret
    exact ⟨by first | rfl | (simp; done) | (simp [*]; done), by repeat (first | exact Drawn0.refl _ | apply Drawn0.step)⟩
  · rw [if_neg c4] at H
    have c4b0 : decide (a1 ≤ a0) = false := decide_eq_false c4
    clear c4
    obtain rfl := Option.some.inj H
    go_enter Try.func52, Try.ntmps52
    go_wp2
    go_ret
    exact ⟨by first | rfl | (simp; done) | (simp [*]; done), by repeat (first | exact Drawn0.refl _ | apply Drawn0.step)⟩

/-! ### impl_isLetters: function 51 -/
def impl_isLetters.f (a0 : Int) : Option (Bool) := (impl_inRange.f a0 1 8).bind fun t171 => (some t171)
set_option maxHeartbeats 8000000 in
set_option maxRecDepth 100000 in
theorem impl_isLetters.calls (a0 : Int) (r : Bool) (w : World) (h : impl_isLetters.f a0 = some r) :
    Calls Try.prog 51 #[.int .i64 a0] w fun e w' => e = .returned (.bool r) ∧ Drawn0 w w' := by
  have H : ((impl_inRange.f a0 1 8).bind fun t171 => (some t171)) = some r := h
  clear h
  replace H := Option.bind_eq_some_iff.mp H
  obtain ⟨t171, A20, H⟩ := H
  replace H : (some t171) = some r := H
  have A2 := Aside0.mk A20
  clear A20
  obtain rfl := Option.some.inj H
  go_enter Try.func51, Try.ntmps51
  go_wp2_with (first | ((with_reducible refine gate_callee (f := 52) rfl ?_); refine goesL_ (some 4) rfl rfl Try.func52 (by kernel_rfl) rfl #[.int .i64 a0, .int .i64 1, .int .i64 8] rfl (by (try simp only [List.map_toArray, List.map_cons, List.map_nil]); first | done | rfl | (simp only [List.length_drop, List.length_take]; rfl)) ?_; (with_reducible refine (impl_inRange.calls a0 1 8 t171 _ A2.out).mono ?_); rintro e w' ⟨rfl, ⟨nd, rfl⟩⟩; refine ⟨_, rfl, ?_⟩))
  go_ret
  exact ⟨by first | rfl | (simp; done) | (simp [*]; done), by repeat (first | exact Drawn0.refl _ | apply Drawn0.step)⟩

/-! ### impl_areLetters: function 53 -/
def impl_areLetters.l0 : Nat → Int → List Int → Int → Int → Option (Bool)
  | 0, _, _, _, _ => none
  | k + 1, x1, x7, x8, x9 => if x9 < x8 then (if 0 ≤ x9 then (if x9 < (x7.length : Int) then ((impl_inRange.f (rd x7 x9) 0 (wrap64 (x1 - 1))).bind fun t173 => (if t173 = true then (impl_areLetters.l0 k x1 x7 x8 (wrap64 (x9 + 1))) else (some false))) else (none)) else (none)) else (some true)
def impl_areLetters.f (k : Nat) (l0 : List Int) (a1 : Int) : Option (Bool) := impl_areLetters.l0 k a1 l0 (l0.length : Int) 0
theorem impl_areLetters.mono_l : ∀ k, (∀ y0 y1 y2 y3, LeO (impl_areLetters.l0 k y0 y1 y2 y3) (impl_areLetters.l0 (k + 1) y0 y1 y2 y3))
  | 0 => fun _ _ _ _ r h => by simp [impl_areLetters.l0] at h
  | k + 1 => by
    have ih0 := impl_areLetters.mono_l k
    · intro y0 y1 y2 y3
      unfold impl_areLetters.l0
      repeat' first
      | (with_reducible exact ih0 _ _ _ _)
      | (with_reducible exact LeO.refl _)
      | (with_reducible exact LeO.none _)
      | (with_reducible refine LeO.ite ?_ ?_)
      | (with_reducible refine LeO.bind ?_ (fun _ => ?_))
      | exact ih0 _ _ _ _
      | exact LeO.none _
      | refine LeO.ite ?_ ?_
      | refine LeO.bind ?_ (fun _ => ?_)
theorem impl_areLetters.mono : ∀ a0 a1 k, LeO (impl_areLetters.f k a0 a1) (impl_areLetters.f (k + 1) a0 a1) := by
  intro a0 a1 k
  have ih0 := impl_areLetters.mono_l k
  unfold impl_areLetters.f
  repeat' first
      | (with_reducible exact ih0 _ _ _ _)
      | (with_reducible exact LeO.refl _)
      | (with_reducible exact LeO.none _)
      | (with_reducible refine LeO.ite ?_ ?_)
      | (with_reducible refine LeO.bind ?_ (fun _ => ?_))
      | exact ih0 _ _ _ _
      | exact LeO.none _
      | refine LeO.ite ?_ ?_
      | refine LeO.bind ?_ (fun _ => ?_)
set_option maxHeartbeats 8000000 in
set_option maxRecDepth 100000 in
theorem impl_areLetters.calls (k : Nat) (A0 : Option Addr) (c0 : Nat) (l0 : List Int) (a1 : Int) (r : Bool) (w : World) (hr0 : Kd.C (Kd.int .i64) w A0 l0.length l0) (hc0 : l0.length ≤ c0) (h : impl_areLetters.f k l0 a1 = some r) :
    Calls Try.prog 53 #[.slice A0 l0.length c0, .int .i64 a1] w fun e w' => e = .returned (.bool r) ∧ Drawn0 w w' := by
  have HR0 := Aside0.mk hr0
  have HC0 := Aside0.mk hc0
  clear hr0 hc0
  have H : (impl_areLetters.l0 k a1 l0 (l0.length : Int) 0) = some r := h
  clear h
  have H' := Aside0.mk H
  clear H
  go_enter Try.func53, Try.ntmps53
  go_wp2
  go_loopg [9] k (fun kq v9 w' => ∃ (x9_1 : Int), v9 = .int .i64 x9_1 ∧ Aside0 (impl_areLetters.l0 kq a1 l0 (l0.length : Int) x9_1 = some r) ∧ Aside0 (kq ≤ k) ∧ Drawn0 w w')
  case atStart => exact ⟨(0), (by first | rfl | (simp; done) | (simp [*]; done) | (rw [Int.tmod_eq_emod_of_nonneg (Int.natCast_nonneg _)]; done)), H', ⟨Nat.le_refl _⟩, by repeat (first | exact Drawn0.refl _ | apply Drawn0.step)⟩
  case round =>
    clear H'
    try clear p2
    obtain ⟨x9_1, rfl, HA, HK1, ⟨m1, rfl⟩⟩ := hrel
    cases gk with
    | zero => exact absurd HA.out (by simp [impl_areLetters.l0])
    | succ k1 =>
      have H := HA.out
      clear HA
      simp only [impl_areLetters.l0] at H
      by_cases c3 : x9_1 < (l0.length : Int)
      · rw [if_pos c3] at H
        have c3b0 : decide (x9_1 < (l0.length : Int)) = true := decide_eq_true c3
        clear c3
        by_cases c4 : 0 ≤ x9_1
        · rw [if_pos c4] at H
          have c4b0 : decide (0 ≤ x9_1) = true := decide_eq_true c4
          clear c4
          by_cases c5 : x9_1 < (l0.length : Int)
          · rw [if_pos c5] at H
            have c5b0 : decide (x9_1 < (l0.length : Int)) = true := decide_eq_true c5
            clear c5
            replace H := Option.bind_eq_some_iff.mp H
            obtain ⟨t173, A60, H⟩ := H
            replace H : (if t173 = true then (impl_areLetters.l0 k1 a1 l0 (l0.length : Int) (wrap64 (x9_1 + 1))) else (some false)) = some r := H
            have A6 := Aside0.mk A60
            clear A60
            by_cases c7 : t173 = true
            · subst c7
              have H1 : (impl_areLetters.l0 k1 a1 l0 (l0.length : Int) (wrap64 (x9_1 + 1))) = some r := by rw [if_pos rfl] at H; exact H
              clear H
              have H := H1
              clear H1
              have H' := Aside0.mk H
              clear H
              have p172 : 0 ≤ (x9_1 : Int) := of_decide_eq_true (by first | (with_reducible assumption) | assumption)
              have q172 : x9_1 < (l0.length : Int) := of_decide_eq_true (by first | (with_reducible assumption) | assumption)
              obtain ⟨ad172, e172, hx172_0⟩ := Kd.at_int HR0.out x9_1 p172 q172
              cases e172
              replace p172 := eq_true p172
              replace q172 := eq_true q172
              go_wp2_with (first | ((with_reducible refine gate_callee (f := 52) rfl ?_); refine goesL_ (some 16) rfl rfl Try.func52 (by kernel_rfl) rfl #[.int .i64 (rd l0 x9_1), .int .i64 0, .int .i64 (wrap64 (a1 - 1))] rfl (by (try simp only [List.map_toArray, List.map_cons, List.map_nil]); first | done | rfl | (simp only [List.length_drop, List.length_take]; rfl)) ?_; (with_reducible refine (impl_inRange.calls (rd l0 x9_1) 0 (wrap64 (a1 - 1)) true _ A6.out).mono ?_); rintro e w' ⟨rfl, ⟨nd, rfl⟩⟩; refine ⟨_, rfl, ?_⟩))
              go_roundg k1
              case measure => have := HK1.out; omega
              case rel => exact ⟨(wrap64 (x9_1 + 1)), (by first | rfl | (simp; done) | (simp [*]; done) | (rw [Int.tmod_eq_emod_of_nonneg (Int.natCast_nonneg _)]; done)), H', ⟨by have := HK1.out; omega⟩, by repeat (first | exact Drawn0.refl _ | apply Drawn0.step)⟩
            · replace c7 := Bool.eq_false_iff.mpr c7
              subst c7
              have H1 : (some false) = some r := by rw [if_neg (show ¬ (false = true) by decide)] at H; exact H
              clear H
              have H := H1
              clear H1
              obtain rfl := Option.some.inj H
              have p172 : 0 ≤ (x9_1 : Int) := of_decide_eq_true (by first | (with_reducible assumption) | assumption)
              have q172 : x9_1 < (l0.length : Int) := of_decide_eq_true (by first | (with_reducible assumption) | assumption)
              obtain ⟨ad172, e172, hx172_0⟩ := Kd.at_int HR0.out x9_1 p172 q172
              cases e172
              replace p172 := eq_true p172
              replace q172 := eq_true q172
              go_wp2_with (first | ((with_reducible refine gate_callee (f := 52) rfl ?_); refine goesL_ (some 16) rfl rfl Try.func52 (by kernel_rfl) rfl #[.int .i64 (rd l0 x9_1), .int .i64 0, .int .i64 (wrap64 (a1 - 1))] rfl (by (try simp only [List.map_toArray, List.map_cons, List.map_nil]); first | done | rfl | (simp only [List.length_drop, List.length_take]; rfl)) ?_; (with_reducible refine (impl_inRange.calls (rd l0 x9_1) 0 (wrap64 (a1 - 1)) false _ A6.out).mono ?_); rintro e w' ⟨rfl, ⟨nd, rfl⟩⟩; refine ⟨_, rfl, ?_⟩))
              go_ret
              exact ⟨by first | rfl | (simp; done) | (simp [*]; done), by repeat (first | exact Drawn0.refl _ | apply Drawn0.step)⟩
          · rw [if_neg c5] at H
            exact absurd H (by simp)
        · rw [if_neg c4] at H
          exact absurd H (by simp)
      · rw [if_neg c3] at H
        have c3b0 : decide (x9_1 < (l0.length : Int)) = false := decide_eq_false c3
        clear c3
        obtain rfl := Option.some.inj H
        go_wp2
        go_ret
        exact ⟨by first | rfl | (simp; done) | (simp [*]; done), by repeat (first | exact Drawn0.refl _ | apply Drawn0.step)⟩


/-! ### impl_WordOk: function 18 -/
def impl_WordOk.j0 : Nat → Int → Bool → List Int → List Int → Option (Bool)
 | 0, _, _, _, _ => none
 | k + 1, x1, x20, x175000, x175001 => if x20 = true then (some false) else ((impl_areLetters.f k x175000 x1).bind fun t177 => (if t177 = true then ((impl_areLetters.f k x175001 x1).bind fun t178 => (some t178)) else (some false)))
def impl_WordOk.f (k : Nat) (l0_0 : List Int) (l0_1 : List Int) (a1 : Int) : Option (Bool) := (impl_isLetters.f a1).bind fun t175 => (if t175 = true then (if (l0_0.length : Int) > 40 then (impl_WordOk.j0 k a1 true l0_0 l0_1) else ((impl_inRange.f (l0_1.length : Int) 1 40).bind fun t176 => (impl_WordOk.j0 k a1 (!t176) l0_0 l0_1))) else (impl_WordOk.j0 k a1 true l0_0 l0_1))
theorem impl_WordOk.mono_l : ∀ k, (∀ y0 y1 y2 y3, LeO (impl_WordOk.j0 k y0 y1 y2 y3) (impl_WordOk.j0 (k + 1) y0 y1 y2 y3))
 | 0 => fun _ _ _ _ r h => by simp [impl_WordOk.j0] at h
 | k + 1 => by
  have ih0 := impl_WordOk.mono_l k
  ·intro y0 y1 y2 y3
   unfold impl_WordOk.j0
   repeat' first
   | (with_reducible exact ih0 _ _ _ _)
   | (with_reducible exact impl_areLetters.mono _ _ _)
   | (with_reducible exact LeO.refl _)
   | (with_reducible exact LeO.none _)
   | (with_reducible refine LeO.ite ?_ ?_)
   | (with_reducible refine LeO.bind ?_ (fun _ => ?_))
   | exact ih0 _ _ _ _
   | exact impl_areLetters.mono _ _ _
   | exact LeO.none _
   | refine LeO.ite ?_ ?_
   | refine LeO.bind ?_ (fun _ => ?_)
theorem impl_WordOk.mono : ∀ a0 a1 a2 k, LeO (impl_WordOk.f k a0 a1 a2) (impl_WordOk.f (k + 1) a0 a1 a2) := by
 intro a0 a1 a2 k
 have ih0 := impl_WordOk.mono_l k
 unfold impl_WordOk.f
 repeat' first
   | (with_reducible exact ih0 _ _ _ _)
   | (with_reducible exact impl_areLetters.mono _ _ _)
   | (with_reducible exact LeO.refl _)
   | (with_reducible exact LeO.none _)
   | (with_reducible refine LeO.ite ?_ ?_)
   | (with_reducible refine LeO.bind ?_ (fun _ => ?_))
   | exact ih0 _ _ _ _
   | exact impl_areLetters.mono _ _ _
   | exact LeO.none _
   | refine LeO.ite ?_ ?_
   | refine LeO.bind ?_ (fun _ => ?_)
open Go.Proofs.Ythkljpbddddhdaa.Short2 in
set_option maxHeartbeats 8000000 in
set_option maxRecDepth 100000 in
theorem impl_WordOk.calls (k : Nat) (A0_0 : Option Addr) (c0_0 : Nat) (l0_0 : List Int) (A0_1 : Option Addr) (c0_1 : Nat) (l0_1 : List Int) (a1 : Int) (r : Bool) (w : World) (hr0_0 : Kd.C (Kd.int .i64) w A0_0 l0_0.length l0_0) (hc0_0 : l0_0.length ≤ c0_0) (hr0_1 : Kd.C (Kd.int .i64) w A0_1 l0_1.length l0_1) (hc0_1 : l0_1.length ≤ c0_1) (h : impl_WordOk.f k l0_0 l0_1 a1 = some r) :
  Calls Try.prog 18 #[.agg #[.slice A0_0 l0_0.length c0_0, .slice A0_1 l0_1.length c0_1], .int .i64 a1] w fun e w' => e = .returned (.bool r) ∧ Below w.heap.size w w' := by
 have hu27 := Try.underlying27; have HR0_0 := Aside0.mk hr0_0; have HC0_0 := Aside0.mk hc0_0; clear hr0_0 hc0_0; have HR0_1 := Aside0.mk hr0_1; have HC0_1 := Aside0.mk hc0_1; clear hr0_1 hc0_1; have HB := Aside0.mk (Below.refl w.heap.size w); have H : ((impl_isLetters.f a1).bind fun t175 => (if t175 = true then (if (l0_0.length : Int) > 40 then (impl_WordOk.j0 k a1 true l0_0 l0_1) else ((impl_inRange.f (l0_1.length : Int) 1 40).bind fun t176 => (impl_WordOk.j0 k a1 (!t176) l0_0 l0_1))) else (impl_WordOk.j0 k a1 true l0_0 l0_1))) = some r := h; clear h; have HC3 := Aside0.mk H; clear H
 go_enter Try.func18, Try.ntmps18
 go_upto_region 1 with (first | ((with_reducible refine gate_dst (N := 2) rfl ?_); (try (refine gate_guard (by rfl) ?_; dsimp only)); refine box_event ?hg (N := 2) ?hd (cs := #[.slice A0_0 l0_0.length c0_0, .slice A0_1 l0_1.length c0_1]) (t := 27) ?hr ?_; (case hd => rfl); (case hg => rfl); (case hr => first | (go_simp; done) | (go_simp; rfl)); intro gb174 hg w4 hbox hb; have BK174 := Aside0.mk (hbox); have GW174 := xG HB hg; have GE174 := xG HB hg; replace HB := xS HB hb; clear hb hbox hg))
 (try simp only [Act.put, q3])
 go_cut [20] (fun v20 wc => ∃ (kq : Nat) (x20_2 : Bool), v20 = .bool x20_2 ∧ Aside0 (impl_WordOk.j0 kq a1 x20_2 l0_0 l0_1 = some r) ∧ Aside0 (kq ≤ k) ∧ Aside0 (wc.heap[gb174]? = some (.cells #[(.slice A0_0 l0_0.length c0_0), (.slice A0_1 l0_1.length c0_1)] 27 (0, 0))) ∧ Aside0 (Below w.heap.size w wc))
 case first =>
  have H := HC3.out; clear HC3; replace H := Option.bind_eq_some_iff.mp H; obtain ⟨t175, A50, H⟩ := H; replace H : (if t175 = true then (if (l0_0.length : Int) > 40 then (impl_WordOk.j0 k a1 true l0_0 l0_1) else ((impl_inRange.f (l0_1.length : Int) 1 40).bind fun t176 => (impl_WordOk.j0 k a1 (!t176) l0_0 l0_1))) else (impl_WordOk.j0 k a1 true l0_0 l0_1)) = some r := H; have A5 := Aside0.mk A50; clear A50
  by_cases c6 : t175 = true
  ·subst c6
   have H1 : (if (l0_0.length : Int) > 40 then (impl_WordOk.j0 k a1 true l0_0 l0_1) else ((impl_inRange.f (l0_1.length : Int) 1 40).bind fun t176 => (impl_WordOk.j0 k a1 (!t176) l0_0 l0_1))) = some r := by rw [if_pos rfl] at H; exact H
   clear H; have H := H1; clear H1
   by_cases c7 : (l0_0.length : Int) > 40
   ·rw [if_pos c7] at H; have c7b0 : decide (40 < (l0_0.length : Int)) = true := decide_eq_true c7; have c7b1 : decide (40 < l0_0.length) = true := decide_eq_true (by omega); clear c7
    (first | rw [c7b0] | (simp only [i64_w, i32_w]; rw [c7b0]) | skip)
    have H' := Aside0.mk H; clear H
    go_wp2_with (first | ((with_reducible refine gate_callee (f := 51) rfl ?_); refine goesL_ (some 6) rfl rfl Try.func51 (by kernel_rfl) rfl #[.int .i64 a1] rfl (by (try simp only [m3]); first | done | rfl | (simp only [d2]; rfl)) ?_; (with_reducible refine (impl_isLetters.calls a1 true _ A5.out).mono ?_); rintro e w' ⟨rfl, ⟨nd, rfl⟩⟩; refine ⟨_, rfl, ?_⟩; have hcz8_0 : w4.cell? ⟨gb174, 0, none⟩ = some (.slice A0_0 l0_0.length c0_0) := b1 BK174 0; have hcz8_1 : w4.cell? ⟨gb174, 1, none⟩ = some (.slice A0_1 l0_1.length c0_1) := b1 BK174 1; have hfz8_0 := blk_frozen BK174.out 0; have hfz8_1 := blk_frozen BK174.out 1))
    go_meet
    case rel => exact ⟨_, (true), (by first | rfl | (simp; done) | (simp [*]; done) | (rw [Int.tmod_eq_emod_of_nonneg (Int.natCast_nonneg _)]; done)), H', ⟨by first | omega | exact Nat.le_refl _⟩, ⟨zB BK174.out⟩, ⟨zS HB.out⟩⟩
   ·rw [if_neg c7] at H; have c7b0 : decide (40 < (l0_0.length : Int)) = false := decide_eq_false c7; have c7b1 : decide (40 < l0_0.length) = false := decide_eq_false (by omega); clear c7
    (first | rw [c7b0] | (simp only [i64_w, i32_w]; rw [c7b0]) | skip)
    replace H := Option.bind_eq_some_iff.mp H; obtain ⟨t176, A90, H⟩ := H; replace H : (impl_WordOk.j0 k a1 (!t176) l0_0 l0_1) = some r := H; have A9 := Aside0.mk A90; clear A90; have H' := Aside0.mk H; clear H
    go_wp2_with (first | ((with_reducible refine gate_callee (f := 51) rfl ?_); refine goesL_ (some 6) rfl rfl Try.func51 (by kernel_rfl) rfl #[.int .i64 a1] rfl (by (try simp only [m3]); first | done | rfl | (simp only [d2]; rfl)) ?_; (with_reducible refine (impl_isLetters.calls a1 true _ A5.out).mono ?_); rintro e w' ⟨rfl, ⟨nd, rfl⟩⟩; refine ⟨_, rfl, ?_⟩; have hcz10_0 : w4.cell? ⟨gb174, 0, none⟩ = some (.slice A0_0 l0_0.length c0_0) := b1 BK174 0; have hcz10_1 : w4.cell? ⟨gb174, 1, none⟩ = some (.slice A0_1 l0_1.length c0_1) := b1 BK174 1; have hfz10_0 := blk_frozen BK174.out 0; have hfz10_1 := blk_frozen BK174.out 1) | (go_at_call 52; (with_reducible refine (impl_inRange.calls (l0_1.length : Int) 1 40 t176 _ A9.out).mono ?_); rintro e w' ⟨rfl, ⟨nd, rfl⟩⟩))
    go_meet
    case rel => exact ⟨_, (!t176), (by first | rfl | (simp; done) | (simp [*]; done) | (rw [Int.tmod_eq_emod_of_nonneg (Int.natCast_nonneg _)]; done)), H', ⟨by first | omega | exact Nat.le_refl _⟩, ⟨zB BK174.out⟩, ⟨zS HB.out⟩⟩
  ·replace c6 := Bool.eq_false_iff.mpr c6; subst c6
   have H1 : (impl_WordOk.j0 k a1 true l0_0 l0_1) = some r := by rw [if_neg (show ¬ (false = true) by decide)] at H; exact H
   clear H; have H := H1; clear H1; have H' := Aside0.mk H; clear H
   go_wp2_with (first | ((with_reducible refine gate_callee (f := 51) rfl ?_); refine goesL_ (some 6) rfl rfl Try.func51 (by kernel_rfl) rfl #[.int .i64 a1] rfl (by (try simp only [m3]); first | done | rfl | (simp only [d2]; rfl)) ?_; (with_reducible refine (impl_isLetters.calls a1 false _ A5.out).mono ?_); rintro e w' ⟨rfl, ⟨nd, rfl⟩⟩; refine ⟨_, rfl, ?_⟩))
   go_meet
   case rel => exact ⟨_, (true), (by first | rfl | (simp; done) | (simp [*]; done) | (rw [Int.tmod_eq_emod_of_nonneg (Int.natCast_nonneg _)]; done)), H', ⟨by first | omega | exact Nat.le_refl _⟩, ⟨zB BK174.out⟩, ⟨zS HB.out⟩⟩
 case rest =>
  clear HC3
  try clear c1
  try clear p2
  try clear c5
  try clear c6
  try clear c7
  try clear c7b0
  try clear c7b1
  try clear hcz10_0
  try clear hcz10_1
  try clear hcz8_0
  try clear hcz8_1
  try clear hfz10_0
  try clear hfz10_1
  try clear hfz8_0
  try clear hfz8_1
  obtain ⟨kq, x20_2, rfl, HA, HJ2, BK174, HB⟩ := hcut
  cases kq with
  | zero => exact absurd HA.out (by simp [impl_WordOk.j0])
  | succ kj2 =>
   have H := HA.out; clear HA; simp only [impl_WordOk.j0] at H
   by_cases c11 : x20_2 = true
   ·subst c11
    have H1 : (some false) = some r := by rw [if_pos rfl] at H; exact H
    clear H; have H := H1; clear H1; obtain rfl := Option.some.inj H
    go_wp2
    go_ret; exact ⟨by first | rfl | (simp [errW_none, errW_some] <;> rfl) | (simp [*, errW_none, errW_some] <;> rfl), by repeat (first | (with_reducible first | exact HB.out | apply below_alloc | apply pw_below_drewN | apply below_drew1 | refine below_set ?_ GE174.out) | exact HB.out)⟩
   ·replace c11 := Bool.eq_false_iff.mpr c11; subst c11
    have H1 : ((impl_areLetters.f kj2 l0_0 a1).bind fun t177 => (if t177 = true then ((impl_areLetters.f kj2 l0_1 a1).bind fun t178 => (some t178)) else (some false))) = some r := by rw [if_neg (show ¬ (false = true) by decide)] at H; exact H
    clear H; have H := H1; clear H1; replace H := Option.bind_eq_some_iff.mp H; obtain ⟨t177, A120, H⟩ := H; replace H : (if t177 = true then ((impl_areLetters.f kj2 l0_1 a1).bind fun t178 => (some t178)) else (some false)) = some r := H; have A12 := Aside0.mk A120; clear A120
    by_cases c13 : t177 = true
    ·subst c13
     have H1 : ((impl_areLetters.f kj2 l0_1 a1).bind fun t178 => (some t178)) = some r := by rw [if_pos rfl] at H; exact H
     clear H; have H := H1; clear H1; replace H := Option.bind_eq_some_iff.mp H; obtain ⟨t178, A140, H⟩ := H; replace H : (some t178) = some r := H; have A14 := Aside0.mk A140; clear A140; obtain rfl := Option.some.inj H; have hcz15_0 : wc.cell? ⟨gb174, 0, none⟩ = some (.slice A0_0 l0_0.length c0_0) := b1 BK174 0; have hcz15_1 : wc.cell? ⟨gb174, 1, none⟩ = some (.slice A0_1 l0_1.length c0_1) := b1 BK174 1; have hfz15_0 := blk_frozen BK174.out 0; have hfz15_1 := blk_frozen BK174.out 1
     go_wp2_with (first | ((with_reducible refine gate_callee (f := 53) rfl ?_); refine goesL_ (some 24) rfl rfl Try.func53 (by kernel_rfl) rfl #[.slice A0_0 l0_0.length c0_0, .int .i64 a1] rfl (by (try simp only [m3]); first | done | rfl | (simp only [d2]; rfl)) ?_; (with_reducible refine (impl_areLetters.calls kj2 _ _ l0_0 a1 true _ ?side1 ?side2 A12.out).mono ?_); (case side1 => exact zC (Kd.C_below HR0_0.out HB.out)); (case side2 => exact HC0_0.out); rintro e w' ⟨rfl, ⟨nd, rfl⟩⟩; refine ⟨_, rfl, ?_⟩) | (go_at_call 53; (with_reducible refine (impl_areLetters.calls kj2 _ _ l0_1 a1 t178 _ ?side1 ?side2 A14.out).mono ?_); (case side1 => repeat (first | exact (Kd.C_below HR0_1.out (zS HB.out)) | (with_reducible refine Kd.C_alloc ?_ _) | (with_reducible refine Kd.C_drewN ?_ _) | (with_reducible refine Kd.C_drew ?_))); (case side2 => exact HC0_1.out); rintro e w' ⟨rfl, ⟨nd, rfl⟩⟩))
     go_ret; exact ⟨by first | rfl | (simp [errW_none, errW_some] <;> rfl) | (simp [*, errW_none, errW_some] <;> rfl), by repeat (first | (with_reducible first | exact HB.out | apply below_alloc | apply pw_below_drewN | apply below_drew1 | refine below_set ?_ GE174.out) | exact HB.out)⟩
    ·replace c13 := Bool.eq_false_iff.mpr c13; subst c13
     have H1 : (some false) = some r := by rw [if_neg (show ¬ (false = true) by decide)] at H; exact H
     clear H; have H := H1; clear H1; obtain rfl := Option.some.inj H; have hcz16_0 : wc.cell? ⟨gb174, 0, none⟩ = some (.slice A0_0 l0_0.length c0_0) := b1 BK174 0; have hcz16_1 : wc.cell? ⟨gb174, 1, none⟩ = some (.slice A0_1 l0_1.length c0_1) := b1 BK174 1; have hfz16_0 := blk_frozen BK174.out 0; have hfz16_1 := blk_frozen BK174.out 1
     go_wp2_with (first | ((with_reducible refine gate_callee (f := 53) rfl ?_); refine goesL_ (some 24) rfl rfl Try.func53 (by kernel_rfl) rfl #[.slice A0_0 l0_0.length c0_0, .int .i64 a1] rfl (by (try simp only [m3]); first | done | rfl | (simp only [d2]; rfl)) ?_; (with_reducible refine (impl_areLetters.calls kj2 _ _ l0_0 a1 false _ ?side1 ?side2 A12.out).mono ?_); (case side1 => exact zC (Kd.C_below HR0_0.out HB.out)); (case side2 => exact HC0_0.out); rintro e w' ⟨rfl, ⟨nd, rfl⟩⟩; refine ⟨_, rfl, ?_⟩))
     go_ret; exact ⟨by first | rfl | (simp [errW_none, errW_some] <;> rfl) | (simp [*, errW_none, errW_some] <;> rfl), by repeat (first | (with_reducible first | exact HB.out | apply below_alloc | apply pw_below_drewN | apply below_drew1 | refine below_set ?_ GE174.out) | exact HB.out)⟩

/-! ### impl_isRight: function 56 -/
def impl_isRight.f (k : Nat) (l0_0 : List Int) (l0_1 : List Int) : Option (Bool) := (impl_WordOk.f k l0_0 l0_1 8).bind fun t180 => (some t180)
theorem impl_isRight.mono : ∀ a0 a1 k, LeO (impl_isRight.f k a0 a1) (impl_isRight.f (k + 1) a0 a1) := by
  intro a0 a1 k
  unfold impl_isRight.f
  repeat' first
      | (with_reducible exact impl_WordOk.mono _ _ _ _)
      | (with_reducible exact LeO.refl _)
      | (with_reducible exact LeO.none _)
      | (with_reducible refine LeO.ite ?_ ?_)
      | (with_reducible refine LeO.bind ?_ (fun _ => ?_))
      | exact impl_WordOk.mono _ _ _ _
      | exact LeO.none _
      | refine LeO.ite ?_ ?_
      | refine LeO.bind ?_ (fun _ => ?_)
set_option maxHeartbeats 8000000 in
set_option maxRecDepth 100000 in
theorem impl_isRight.calls (k : Nat) (A0_0 : Option Addr) (c0_0 : Nat) (l0_0 : List Int) (A0_1 : Option Addr) (c0_1 : Nat) (l0_1 : List Int) (r : Bool) (w : World) (hr0_0 : Kd.C (Kd.int .i64) w A0_0 l0_0.length l0_0) (hc0_0 : l0_0.length ≤ c0_0) (hr0_1 : Kd.C (Kd.int .i64) w A0_1 l0_1.length l0_1) (hc0_1 : l0_1.length ≤ c0_1) (h : impl_isRight.f k l0_0 l0_1 = some r) :
    Calls Try.prog 56 #[.agg #[.slice A0_0 l0_0.length c0_0, .slice A0_1 l0_1.length c0_1]] w fun e w' => e = .returned (.bool r) ∧ Below w.heap.size w w' := by
  have hu27 := Try.underlying27
  have HR0_0 := Aside0.mk hr0_0
  have HC0_0 := Aside0.mk hc0_0
  clear hr0_0 hc0_0
  have HR0_1 := Aside0.mk hr0_1
  have HC0_1 := Aside0.mk hc0_1
  clear hr0_1 hc0_1
  have HB := Aside0.mk (Below.refl w.heap.size w)
  have H : ((impl_WordOk.f k l0_0 l0_1 8).bind fun t180 => (some t180)) = some r := h
  clear h
  replace H := Option.bind_eq_some_iff.mp H
  obtain ⟨t180, A20, H⟩ := H
  replace H : (some t180) = some r := H
  have A2 := Aside0.mk A20
  clear A20
  obtain rfl := Option.some.inj H
  go_enter Try.func56, Try.ntmps56
  go_wp2_with (first | ((with_reducible refine gate_dst (N := 1) rfl ?_); refine box_event ?hg (N := 1) ?hd (cs := #[.slice A0_0 l0_0.length c0_0, .slice A0_1 l0_1.length c0_1]) (t := 27) ?hr ?_; (case hd => rfl); (case hg => rfl); (case hr => first | (go_simp; done) | (go_simp; rfl)); intro gb179 hg w3 hbox hb; have n0_ := Aside0.mk (below_step (by repeat (first | (with_reducible first | exact HB.out | apply below_alloc | apply pw_below_drewN | apply below_drew1) | exact HB.out)) hb); have n1_ := Aside0.mk (hbox); have n2_ := Aside0.mk ((by rw [hg]; exact (below_size (by repeat (first | (with_reducible first | exact HB.out | apply below_alloc | apply pw_below_drewN | apply below_drew1) | exact HB.out))) : w.heap.size ≤ gb179)); have n3_ := Aside0.mk ((by rw [hg]; exact (below_size (by repeat (first | (with_reducible first | exact HB.out | apply below_alloc | apply pw_below_drewN | apply below_drew1) | exact HB.out))) : w.heap.size ≤ gb179)); clear HB; have HB := n0_; have BK179 := n1_; have GW179 := n2_; have GE179 := n3_; clear n0_ n1_ n2_ n3_; clear hb hbox hg; have hcz4_0 : w3.cell? ⟨gb179, 0, none⟩ = some (.slice A0_0 l0_0.length c0_0) := (blk_cell BK179.out 0).trans rfl; have hcz4_1 : w3.cell? ⟨gb179, 1, none⟩ = some (.slice A0_1 l0_1.length c0_1) := (blk_cell BK179.out 1).trans rfl; have hfz4_0 := blk_frozen BK179.out 0; have hfz4_1 := blk_frozen BK179.out 1) | ((with_reducible refine gate_callee (f := 18) rfl ?_); refine goesL_ (some 4) rfl rfl Try.func18 (by kernel_rfl) rfl #[.agg #[.slice A0_0 l0_0.length c0_0, .slice A0_1 l0_1.length c0_1], .int .i64 8] rfl (by (try simp only [List.map_toArray, List.map_cons, List.map_nil]); first | done | rfl | (simp only [List.length_drop, List.length_take]; rfl)) ?_; (with_reducible refine (impl_WordOk.calls k _ _ l0_0 _ _ l0_1 8 t180 _ ?side1 ?side2 ?side3 ?side4 A2.out).mono ?_); (case side1 => repeat (first | exact (Kd.C_below HR0_0.out HB.out) | (with_reducible refine Kd.C_alloc ?_ _) | (with_reducible refine Kd.C_drewN ?_ _) | (with_reducible refine Kd.C_drew ?_))); (case side2 => exact HC0_0.out); (case side3 => repeat (first | exact (Kd.C_below HR0_1.out HB.out) | (with_reducible refine Kd.C_alloc ?_ _) | (with_reducible refine Kd.C_drewN ?_ _) | (with_reducible refine Kd.C_drew ?_))); (case side4 => exact HC0_1.out); rintro e w5 ⟨rfl, hb⟩; refine ⟨_, rfl, ?_⟩; have n0_ := Aside0.mk (blk_below (g := gb179) (o := .cells #[.slice A0_0 l0_0.length c0_0, .slice A0_1 l0_1.length c0_1] 27 (0, 0)) (by (with_reducible repeat (first | refine blk_drewN ?_ _ | refine blk_drew ?_ | refine blk_alloc ?_ _)); exact BK179.out) hb); have n1_ := Aside0.mk (below_step (by repeat (first | (with_reducible first | exact HB.out | apply below_alloc | apply pw_below_drewN | apply below_drew1 | refine below_set ?_ GE179.out) | exact HB.out)) hb); clear BK179; clear HB; have BK179 := n0_; have HB := n1_; clear n0_ n1_; (try clear hb); (try clear hb2); (try clear hk); (try clear hi)))
  go_ret
  exact ⟨by first | rfl | (simp [errW_none, errW_some] <;> rfl) | (simp [*, errW_none, errW_some] <;> rfl), by repeat (first | (with_reducible first | exact HB.out | apply below_alloc | apply pw_below_drewN | apply below_drew1 | refine below_set ?_ GE179.out) | exact HB.out)⟩


/-! ### impl_rightOr: function 60 -/
def impl_rightOr.f (k : Nat) (l0_0 : List Int) (l0_1 : List Int) (a1 : Bool) : Option (List Int × List Int × Bool) := if a1 = true then ((impl_isRight.f k l0_0 l0_1).bind fun t183 => (if t183 = true then (some (l0_0, l0_1, true)) else (some (([] : List Int), ([] : List Int), false)))) else (some (([] : List Int), ([] : List Int), false))
theorem impl_rightOr.mono : ∀ a0 a1 a2 k, LeO (impl_rightOr.f k a0 a1 a2) (impl_rightOr.f (k + 1) a0 a1 a2) := by
 intro a0 a1 a2 k
 unfold impl_rightOr.f
 repeat' first
   | (with_reducible exact impl_isRight.mono _ _ _)
   | (with_reducible exact LeO.refl _)
   | (with_reducible exact LeO.none _)
   | (with_reducible refine LeO.ite ?_ ?_)
   | (with_reducible refine LeO.bind ?_ (fun _ => ?_))
   | exact impl_isRight.mono _ _ _
   | exact LeO.none _
   | refine LeO.ite ?_ ?_
   | refine LeO.bind ?_ (fun _ => ?_)
open Go.Proofs.Ythkljpbddddhdaa.Short2 in
set_option maxHeartbeats 8000000 in
set_option maxRecDepth 100000 in
theorem impl_rightOr.calls (k : Nat) (P0_0_ : Nat → Prop) (u9000_ : Value) (l0_0 : List Int) (P0_1_ : Nat → Prop) (u9001_ : Value) (l0_1 : List Int) (a1 : Bool) (r1 : List Int) (r2 : List Int) (r3 : Bool) (w0 w : World) (hB : Below w0.heap.size w0 w) (ho0_0 : Kd.R (Kd.int .i64) 3 w w0.heap.size P0_0_ u9000_ l0_0) (hp0_0_0_1 : ∀ k_, P0_0_ k_ → ¬ P0_1_ k_) (ho0_1 : Kd.R (Kd.int .i64) 3 w w0.heap.size P0_1_ u9001_ l0_1) (hp0_1_0_0 : ∀ k_, P0_1_ k_ → ¬ P0_0_ k_) (h : impl_rightOr.f k l0_0 l0_1 a1 = some (r1, r2, r3)) :
  Calls Try.prog 60 #[.agg #[u9000_, u9001_], .bool a1] w fun e w' => ∃ v0_ v1_ : Value, e = .returned (.tuple #[.agg #[v0_, v1_], .bool r3]) ∧ Kd.R (Kd.int .i64) 3 w' w0.heap.size (fun k_ => ((P0_0_ k_ ∨ P0_1_ k_) ∨ w.heap.size ≤ k_) ∧ some k_ ≠ (v1_ : Value).ownBlock) v0_ r1 ∧ Kd.R (Kd.int .i64) 3 w' w0.heap.size (fun k_ => ((P0_0_ k_ ∨ P0_1_ k_) ∨ w.heap.size ≤ k_) ∧ some k_ ≠ (v0_ : Value).ownBlock) v1_ r2 ∧ Below w0.heap.size w0 w' ∧ Kept w w' (fun k_ => P0_0_ k_ ∨ P0_1_ k_) := by
 have hu27 := Try.underlying27; have HO0_0 := Aside0.mk (show Kd.R (Kd.int .i64) 3 w w0.heap.size (fun k_ => ((P0_0_ k_ ∨ P0_1_ k_) ∨ w.heap.size ≤ k_) ∧ some k_ ≠ (u9001_ : Value).ownBlock) u9000_ l0_0 from Kd.R_mono ho0_0 (fun k_ hk => ⟨(.inl (.inl hk)), fun e_ => hp0_0_0_1 k_ hk (ho0_1.1 k_ e_.symm)⟩)); have HO0_1 := Aside0.mk (show Kd.R (Kd.int .i64) 3 w w0.heap.size (fun k_ => ((P0_0_ k_ ∨ P0_1_ k_) ∨ w.heap.size ≤ k_) ∧ some k_ ≠ (u9000_ : Value).ownBlock) u9001_ l0_1 from Kd.R_mono ho0_1 (fun k_ hk => ⟨(.inl (.inr hk)), fun e_ => hp0_1_0_0 k_ hk (ho0_0.1 k_ e_.symm)⟩)); have HK := Aside0.mk (Kept.refl w (fun k_ => P0_0_ k_ ∨ P0_1_ k_)); have HW0 := Aside0.mk hB.size; have HB := Aside0.mk hB; clear hB; have H : (if a1 = true then ((impl_isRight.f k l0_0 l0_1).bind fun t183 => (if t183 = true then (some (l0_0, l0_1, true)) else (some (([] : List Int), ([] : List Int), false)))) else (some (([] : List Int), ([] : List Int), false))) = some (r1, r2, r3) := h; clear h
 by_cases c3 : a1 = true
 ·subst c3
  have H1 : ((impl_isRight.f k l0_0 l0_1).bind fun t183 => (if t183 = true then (some (l0_0, l0_1, true)) else (some (([] : List Int), ([] : List Int), false)))) = some (r1, r2, r3) := by rw [if_pos rfl] at H; exact H
  clear H; have H := H1; clear H1; replace H := Option.bind_eq_some_iff.mp H; obtain ⟨t183, A40, H⟩ := H; replace H : (if t183 = true then (some (l0_0, l0_1, true)) else (some (([] : List Int), ([] : List Int), false))) = some (r1, r2, r3) := H; have A4 := Aside0.mk A40; clear A40
  by_cases c5 : t183 = true
  ·subst c5
   have H1 : (some (l0_0, l0_1, true)) = some (r1, r2, r3) := by rw [if_pos rfl] at H; exact H
   clear H; have H := H1; clear H1; simp only [Option.some.injEq, Prod.mk.injEq] at H; obtain ⟨rfl, rfl, rfl⟩ := H; obtain ⟨Ao6, co6, eo6⟩ := Kd.R_slice HO0_0.out; subst eo6; obtain ⟨Ao7, co7, eo7⟩ := Kd.R_slice HO0_1.out; subst eo7
   go_enter Try.func60, Try.ntmps60
   go_wp2_with (first | ((with_reducible refine gate_dst (N := 2) rfl ?_); refine box_event ?hg (N := 2) ?hd (cs := #[.slice Ao6 l0_0.length co6, .slice Ao7 l0_1.length co7]) (t := 27) ?hr ?_; (case hd => rfl); (case hg => rfl); (case hr => first | (go_simp; done) | (go_simp; rfl)); intro gb181 hg w8 hbox hb; have n0_ := xR HO0_0 hb; have n1_ := xR HO0_1 hb; have n2_ := Aside0.mk (Kept.below (S := (fun k_ => P0_0_ k_ ∨ P0_1_ k_)) (by repeat (first | (with_reducible first | exact HK.out | apply Kept.alloc | apply Kept.drewN | apply Kept.drew) | exact HK.out)) hb); have n3_ := xS HB hb; have n4_ := Aside0.mk (hbox); have n5_ := Aside0.mk ((by rw [hg]; exact (by first | exact HK.out.1 | exact (show Kept w _ (fun k_ => P0_0_ k_ ∨ P0_1_ k_) from by repeat (first | (with_reducible first | exact HK.out | apply Kept.alloc | apply Kept.drewN | apply Kept.drew) | exact HK.out)).1) : w.heap.size ≤ gb181)); have n6_ := Aside0.mk ((by rw [hg]; exact (below_size (zS HB.out)) : w0.heap.size ≤ gb181)); clear HO0_0; clear HO0_1; clear HK; clear HB; have HO0_0 := n0_; have HO0_1 := n1_; have HK := n2_; have HB := n3_; have BK181 := n4_; have GW181 := n5_; have GE181 := n6_; clear n0_ n1_ n2_ n3_ n4_ n5_ n6_; clear hb hbox hg) | ((with_reducible refine gate_dst (N := 4) rfl ?_); refine box_event ?hg (N := 4) ?hd (cs := #[.slice none 0 0, .slice none 0 0]) (t := 27) ?hr ?_; (case hd => rfl); (case hg => rfl); (case hr => first | (go_simp; done) | (go_simp; rfl)); intro gb182 hg w9 hbox hb; have n0_ := xR HO0_0 hb; have n1_ := xR HO0_1 hb; have n2_ := xB BK181 hb; have n3_ := Aside0.mk (Kept.below (S := (fun k_ => P0_0_ k_ ∨ P0_1_ k_)) (by repeat (first | (with_reducible first | exact HK.out | apply Kept.alloc | apply Kept.drewN | apply Kept.drew | refine Kept.setCell ?_ (.inr GW181.out) _) | exact HK.out)) hb); have n4_ := xS HB hb; have n5_ := Aside0.mk (hbox); have n6_ := Aside0.mk ((by rw [hg]; exact (by first | exact HK.out.1 | exact (show Kept w _ (fun k_ => P0_0_ k_ ∨ P0_1_ k_) from by repeat (first | (with_reducible first | exact HK.out | apply Kept.alloc | apply Kept.drewN | apply Kept.drew | refine Kept.setCell ?_ (.inr GW181.out) _) | exact HK.out)).1) : w.heap.size ≤ gb182)); have n7_ := Aside0.mk ((by rw [hg]; exact (below_size (zS HB.out)) : w0.heap.size ≤ gb182)); have n8_ := xN BK181 hg; have n9_ := xM BK181 hg; clear HO0_0; clear HO0_1; clear BK181; clear HK; clear HB; have HO0_0 := n0_; have HO0_1 := n1_; have BK181 := n2_; have HK := n3_; have HB := n4_; have BK182 := n5_; have GW182 := n6_; have GE182 := n7_; have NB181_182 := n8_; have NB182_181 := n9_; clear n0_ n1_ n2_ n3_ n4_ n5_ n6_ n7_ n8_ n9_; clear hb hbox hg; have hnb10 := NB181_182.out; have hnc10 := NB182_181.out; have hcz11_0 : w9.cell? ⟨gb181, 0, none⟩ = some (.slice Ao6 l0_0.length co6) := b1 BK181 0; have hcz11_1 : w9.cell? ⟨gb181, 1, none⟩ = some (.slice Ao7 l0_1.length co7) := b1 BK181 1; have hfz11_0 := blk_frozen BK181.out 0; have hfz11_1 := blk_frozen BK181.out 1) | (go_at_call 56; (with_reducible refine (impl_isRight.calls k _ _ l0_0 _ _ l0_1 true _ ?side1 ?side2 ?side3 ?side4 A4.out).mono ?_); (case side1 => exact zC (Kd.R_reads' HO0_0.out).2.2); (case side2 => exact (Kd.R_reads' HO0_0.out).2.1); (case side3 => exact zC (Kd.R_reads' HO0_1.out).2.2); (case side4 => exact (Kd.R_reads' HO0_1.out).2.1); rintro e w12 ⟨rfl, hb⟩; have n0_ := xR HO0_0 hb; have n1_ := xR HO0_1 hb; have n2_ := xB BK181 hb; have n3_ := xB BK182 hb; have n4_ := Aside0.mk (Kept.below (S := (fun k_ => P0_0_ k_ ∨ P0_1_ k_)) (by repeat (first | (with_reducible first | exact HK.out | apply Kept.alloc | apply Kept.drewN | apply Kept.drew | refine Kept.setCell ?_ (.inr GW181.out) _ | refine Kept.setCell ?_ (.inr GW182.out) _) | exact HK.out)) hb); have n5_ := xS HB hb; clear HO0_0; clear HO0_1; clear BK181; clear BK182; clear HK; clear HB; have HO0_0 := n0_; have HO0_1 := n1_; have BK181 := n2_; have BK182 := n3_; have HK := n4_; have HB := n5_; clear n0_ n1_ n2_ n3_ n4_ n5_; (try clear hb); (try clear hb2); (try clear hk); (try clear hi); have hcz13_0 : w12.cell? ⟨gb181, 0, none⟩ = some (.slice Ao6 l0_0.length co6) := b1 BK181 0; have hcz13_1 : w12.cell? ⟨gb181, 1, none⟩ = some (.slice Ao7 l0_1.length co7) := b1 BK181 1; have hfz13_0 := blk_frozen BK181.out 0; have hfz13_1 := blk_frozen BK181.out 1; have hcz14_0 : w12.cell? ⟨gb182, 0, none⟩ = some (.slice none 0 0) := b1 BK182 0; have hcz14_1 : w12.cell? ⟨gb182, 1, none⟩ = some (.slice none 0 0) := b1 BK182 1; have hfz14_0 := blk_frozen BK182.out 0; have hfz14_1 := blk_frozen BK182.out 1))
   refine bodyPost_ret (results_ct rfl _ _ gb182 27 #[.slice Ao6 l0_0.length co6, .slice Ao7 l0_1.length co7] (0, 0) _ rfl (by (with_reducible repeat (first | refine blk_drewN ?_ _ | refine blk_drew ?_ | refine blk_alloc ?_ _)); refine blk_put (cs := #[.slice Ao6 l0_0.length co6, .slice none 0 0]) ?_ 1 _ rfl; (with_reducible repeat (first | refine blk_drewN ?_ _ | refine blk_drew ?_ | refine blk_alloc ?_ _)); refine blk_put (cs := #[.slice none 0 0, .slice none 0 0]) ?_ 0 _ rfl; (with_reducible repeat (first | refine blk_drewN ?_ _ | refine blk_drew ?_ | refine blk_alloc ?_ _)); exact BK182.out) Try.underlying27 rfl (by kernel_rfl)) rfl ?_; exact ⟨_, _, by first | rfl | (simp [errW_none, errW_some] <;> rfl) | (simp [*, errW_none, errW_some] <;> rfl), by (with_reducible repeat (first | apply Kd.R_alloc | apply Kd.R_drewN | apply Kd.R_drew)); exact Kd.R_mono (Kd.R_far (p := ⟨gb182, 1, none⟩) (Kd.R_far (p := ⟨gb182, 0, none⟩) (Kd.R_types HO0_0.out BK182.out (by decide)) (fun _ hk => hk.2) (.slice Ao6 l0_0.length co6)) (fun _ hk => hk.2) (.slice Ao7 l0_1.length co7)) (fun _ hk => ⟨hk.1.1, hk.1.2⟩), by (with_reducible repeat (first | apply Kd.R_alloc | apply Kd.R_drewN | apply Kd.R_drew)); exact Kd.R_mono (Kd.R_far (p := ⟨gb182, 1, none⟩) (Kd.R_far (p := ⟨gb182, 0, none⟩) (Kd.R_types HO0_1.out BK182.out (by decide)) (fun _ hk => hk.2) (.slice Ao6 l0_0.length co6)) (fun _ hk => hk.2) (.slice Ao7 l0_1.length co7)) (fun _ hk => ⟨hk.1.1, hk.1.2⟩), by repeat (first | (with_reducible first | exact HB.out | apply below_alloc | apply pw_below_drewN | apply below_drew1 | refine below_set ?_ GE181.out | refine below_set ?_ GE182.out) | exact HB.out), by repeat (first | (with_reducible first | exact HK.out | apply Kept.alloc | apply Kept.drewN | apply Kept.drew | refine Kept.setCell ?_ (.inr GW181.out) _ | refine Kept.setCell ?_ (.inr GW182.out) _) | exact HK.out)⟩
  ·replace c5 := Bool.eq_false_iff.mpr c5; subst c5
   have H1 : (some (([] : List Int), ([] : List Int), false)) = some (r1, r2, r3) := by rw [if_neg (show ¬ (false = true) by decide)] at H; exact H
   clear H; have H := H1; clear H1; simp only [Option.some.injEq, Prod.mk.injEq] at H; obtain ⟨rfl, rfl, rfl⟩ := H; obtain ⟨Ao15, co15, eo15⟩ := Kd.R_slice HO0_0.out; subst eo15; obtain ⟨Ao16, co16, eo16⟩ := Kd.R_slice HO0_1.out; subst eo16
   go_enter Try.func60, Try.ntmps60
   go_wp2_with (first | ((with_reducible refine gate_dst (N := 2) rfl ?_); refine box_event ?hg (N := 2) ?hd (cs := #[.slice Ao15 l0_0.length co15, .slice Ao16 l0_1.length co16]) (t := 27) ?hr ?_; (case hd => rfl); (case hg => rfl); (case hr => first | (go_simp; done) | (go_simp; rfl)); intro gb181 hg w17 hbox hb; have n0_ := xR HO0_0 hb; have n1_ := xR HO0_1 hb; have n2_ := Aside0.mk (Kept.below (S := (fun k_ => P0_0_ k_ ∨ P0_1_ k_)) (by repeat (first | (with_reducible first | exact HK.out | apply Kept.alloc | apply Kept.drewN | apply Kept.drew) | exact HK.out)) hb); have n3_ := xS HB hb; have n4_ := Aside0.mk (hbox); have n5_ := Aside0.mk ((by rw [hg]; exact (by first | exact HK.out.1 | exact (show Kept w _ (fun k_ => P0_0_ k_ ∨ P0_1_ k_) from by repeat (first | (with_reducible first | exact HK.out | apply Kept.alloc | apply Kept.drewN | apply Kept.drew) | exact HK.out)).1) : w.heap.size ≤ gb181)); have n6_ := Aside0.mk ((by rw [hg]; exact (below_size (zS HB.out)) : w0.heap.size ≤ gb181)); clear HO0_0; clear HO0_1; clear HK; clear HB; have HO0_0 := n0_; have HO0_1 := n1_; have HK := n2_; have HB := n3_; have BK181 := n4_; have GW181 := n5_; have GE181 := n6_; clear n0_ n1_ n2_ n3_ n4_ n5_ n6_; clear hb hbox hg) | ((with_reducible refine gate_dst (N := 4) rfl ?_); refine box_event ?hg (N := 4) ?hd (cs := #[.slice none 0 0, .slice none 0 0]) (t := 27) ?hr ?_; (case hd => rfl); (case hg => rfl); (case hr => first | (go_simp; done) | (go_simp; rfl)); intro gb182 hg w18 hbox hb; have n0_ := xR HO0_0 hb; have n1_ := xR HO0_1 hb; have n2_ := xB BK181 hb; have n3_ := Aside0.mk (Kept.below (S := (fun k_ => P0_0_ k_ ∨ P0_1_ k_)) (by repeat (first | (with_reducible first | exact HK.out | apply Kept.alloc | apply Kept.drewN | apply Kept.drew | refine Kept.setCell ?_ (.inr GW181.out) _) | exact HK.out)) hb); have n4_ := xS HB hb; have n5_ := Aside0.mk (hbox); have n6_ := Aside0.mk ((by rw [hg]; exact (by first | exact HK.out.1 | exact (show Kept w _ (fun k_ => P0_0_ k_ ∨ P0_1_ k_) from by repeat (first | (with_reducible first | exact HK.out | apply Kept.alloc | apply Kept.drewN | apply Kept.drew | refine Kept.setCell ?_ (.inr GW181.out) _) | exact HK.out)).1) : w.heap.size ≤ gb182)); have n7_ := Aside0.mk ((by rw [hg]; exact (below_size (zS HB.out)) : w0.heap.size ≤ gb182)); have n8_ := xN BK181 hg; have n9_ := xM BK181 hg; clear HO0_0; clear HO0_1; clear BK181; clear HK; clear HB; have HO0_0 := n0_; have HO0_1 := n1_; have BK181 := n2_; have HK := n3_; have HB := n4_; have BK182 := n5_; have GW182 := n6_; have GE182 := n7_; have NB181_182 := n8_; have NB182_181 := n9_; clear n0_ n1_ n2_ n3_ n4_ n5_ n6_ n7_ n8_ n9_; clear hb hbox hg; have hnb19 := NB181_182.out; have hnc19 := NB182_181.out; have hcz20_0 : w18.cell? ⟨gb181, 0, none⟩ = some (.slice Ao15 l0_0.length co15) := b1 BK181 0; have hcz20_1 : w18.cell? ⟨gb181, 1, none⟩ = some (.slice Ao16 l0_1.length co16) := b1 BK181 1; have hfz20_0 := blk_frozen BK181.out 0; have hfz20_1 := blk_frozen BK181.out 1) | (go_at_call 56; (with_reducible refine (impl_isRight.calls k _ _ l0_0 _ _ l0_1 false _ ?side1 ?side2 ?side3 ?side4 A4.out).mono ?_); (case side1 => exact zC (Kd.R_reads' HO0_0.out).2.2); (case side2 => exact (Kd.R_reads' HO0_0.out).2.1); (case side3 => exact zC (Kd.R_reads' HO0_1.out).2.2); (case side4 => exact (Kd.R_reads' HO0_1.out).2.1); rintro e w21 ⟨rfl, hb⟩; have n0_ := xR HO0_0 hb; have n1_ := xR HO0_1 hb; have n2_ := xB BK181 hb; have n3_ := xB BK182 hb; have n4_ := Aside0.mk (Kept.below (S := (fun k_ => P0_0_ k_ ∨ P0_1_ k_)) (by repeat (first | (with_reducible first | exact HK.out | apply Kept.alloc | apply Kept.drewN | apply Kept.drew | refine Kept.setCell ?_ (.inr GW181.out) _ | refine Kept.setCell ?_ (.inr GW182.out) _) | exact HK.out)) hb); have n5_ := xS HB hb; clear HO0_0; clear HO0_1; clear BK181; clear BK182; clear HK; clear HB; have HO0_0 := n0_; have HO0_1 := n1_; have BK181 := n2_; have BK182 := n3_; have HK := n4_; have HB := n5_; clear n0_ n1_ n2_ n3_ n4_ n5_; (try clear hb); (try clear hb2); (try clear hk); (try clear hi); have hcz22_0 : w21.cell? ⟨gb182, 0, none⟩ = some (.slice none 0 0) := b1 BK182 0; have hcz22_1 : w21.cell? ⟨gb182, 1, none⟩ = some (.slice none 0 0) := b1 BK182 1; have hfz22_0 := blk_frozen BK182.out 0; have hfz22_1 := blk_frozen BK182.out 1))
   refine bodyPost_ret (results_ct rfl _ _ gb182 27 #[.slice none 0 0, .slice none 0 0] (0, 0) _ rfl (by (with_reducible repeat (first | refine blk_drewN ?_ _ | refine blk_drew ?_ | refine blk_alloc ?_ _)); refine blk_put (cs := #[.slice none 0 0, .slice none 0 0]) ?_ 1 _ rfl; (with_reducible repeat (first | refine blk_drewN ?_ _ | refine blk_drew ?_ | refine blk_alloc ?_ _)); refine blk_put (cs := #[.slice none 0 0, .slice none 0 0]) ?_ 0 _ rfl; (with_reducible repeat (first | refine blk_drewN ?_ _ | refine blk_drew ?_ | refine blk_alloc ?_ _)); exact BK182.out) Try.underlying27 rfl (by kernel_rfl)) rfl ?_; exact ⟨_, _, by first | rfl | (simp [errW_none, errW_some] <;> rfl) | (simp [*, errW_none, errW_some] <;> rfl), by first | exact Kd.R_nil _ _ _ _ _ | exact Kd.N_nil _ _ _ _ _ | exact Kd.V_nil _ _ _ _ _ | exact Kd.Q_nil _ _ _ _ _ | exact Kd.S_nil _ _ _ _ _, by first | exact Kd.R_nil _ _ _ _ _ | exact Kd.N_nil _ _ _ _ _ | exact Kd.V_nil _ _ _ _ _ | exact Kd.Q_nil _ _ _ _ _ | exact Kd.S_nil _ _ _ _ _, by repeat (first | (with_reducible first | exact HB.out | apply below_alloc | apply pw_below_drewN | apply below_drew1 | refine below_set ?_ GE181.out | refine below_set ?_ GE182.out) | exact HB.out), by repeat (first | (with_reducible first | exact HK.out | apply Kept.alloc | apply Kept.drewN | apply Kept.drew | refine Kept.setCell ?_ (.inr GW181.out) _ | refine Kept.setCell ?_ (.inr GW182.out) _) | exact HK.out)⟩
 ·replace c3 := Bool.eq_false_iff.mpr c3; subst c3
  have H1 : (some (([] : List Int), ([] : List Int), false)) = some (r1, r2, r3) := by rw [if_neg (show ¬ (false = true) by decide)] at H; exact H
  clear H; have H := H1; clear H1; simp only [Option.some.injEq, Prod.mk.injEq] at H; obtain ⟨rfl, rfl, rfl⟩ := H; obtain ⟨Ao23, co23, eo23⟩ := Kd.R_slice HO0_0.out; subst eo23; obtain ⟨Ao24, co24, eo24⟩ := Kd.R_slice HO0_1.out; subst eo24
  go_enter Try.func60, Try.ntmps60
  go_wp2_with (first | ((with_reducible refine gate_dst (N := 2) rfl ?_); refine box_event ?hg (N := 2) ?hd (cs := #[.slice Ao23 l0_0.length co23, .slice Ao24 l0_1.length co24]) (t := 27) ?hr ?_; (case hd => rfl); (case hg => rfl); (case hr => first | (go_simp; done) | (go_simp; rfl)); intro gb181 hg w25 hbox hb; have n0_ := xR HO0_0 hb; have n1_ := xR HO0_1 hb; have n2_ := Aside0.mk (Kept.below (S := (fun k_ => P0_0_ k_ ∨ P0_1_ k_)) (by repeat (first | (with_reducible first | exact HK.out | apply Kept.alloc | apply Kept.drewN | apply Kept.drew) | exact HK.out)) hb); have n3_ := xS HB hb; have n4_ := Aside0.mk (hbox); have n5_ := Aside0.mk ((by rw [hg]; exact (by first | exact HK.out.1 | exact (show Kept w _ (fun k_ => P0_0_ k_ ∨ P0_1_ k_) from by repeat (first | (with_reducible first | exact HK.out | apply Kept.alloc | apply Kept.drewN | apply Kept.drew) | exact HK.out)).1) : w.heap.size ≤ gb181)); have n6_ := Aside0.mk ((by rw [hg]; exact (below_size (zS HB.out)) : w0.heap.size ≤ gb181)); clear HO0_0; clear HO0_1; clear HK; clear HB; have HO0_0 := n0_; have HO0_1 := n1_; have HK := n2_; have HB := n3_; have BK181 := n4_; have GW181 := n5_; have GE181 := n6_; clear n0_ n1_ n2_ n3_ n4_ n5_ n6_; clear hb hbox hg) | ((with_reducible refine gate_dst (N := 4) rfl ?_); refine box_event ?hg (N := 4) ?hd (cs := #[.slice none 0 0, .slice none 0 0]) (t := 27) ?hr ?_; (case hd => rfl); (case hg => rfl); (case hr => first | (go_simp; done) | (go_simp; rfl)); intro gb182 hg w26 hbox hb; have n0_ := xR HO0_0 hb; have n1_ := xR HO0_1 hb; have n2_ := xB BK181 hb; have n3_ := Aside0.mk (Kept.below (S := (fun k_ => P0_0_ k_ ∨ P0_1_ k_)) (by repeat (first | (with_reducible first | exact HK.out | apply Kept.alloc | apply Kept.drewN | apply Kept.drew | refine Kept.setCell ?_ (.inr GW181.out) _) | exact HK.out)) hb); have n4_ := xS HB hb; have n5_ := Aside0.mk (hbox); have n6_ := Aside0.mk ((by rw [hg]; exact (by first | exact HK.out.1 | exact (show Kept w _ (fun k_ => P0_0_ k_ ∨ P0_1_ k_) from by repeat (first | (with_reducible first | exact HK.out | apply Kept.alloc | apply Kept.drewN | apply Kept.drew | refine Kept.setCell ?_ (.inr GW181.out) _) | exact HK.out)).1) : w.heap.size ≤ gb182)); have n7_ := Aside0.mk ((by rw [hg]; exact (below_size (zS HB.out)) : w0.heap.size ≤ gb182)); have n8_ := xN BK181 hg; have n9_ := xM BK181 hg; clear HO0_0; clear HO0_1; clear BK181; clear HK; clear HB; have HO0_0 := n0_; have HO0_1 := n1_; have BK181 := n2_; have HK := n3_; have HB := n4_; have BK182 := n5_; have GW182 := n6_; have GE182 := n7_; have NB181_182 := n8_; have NB182_181 := n9_; clear n0_ n1_ n2_ n3_ n4_ n5_ n6_ n7_ n8_ n9_; clear hb hbox hg; have hnb27 := NB182_181.out; have hnc27 := NB181_182.out; have hcz28_0 : w26.cell? ⟨gb182, 0, none⟩ = some (.slice none 0 0) := b1 BK182 0; have hcz28_1 : w26.cell? ⟨gb182, 1, none⟩ = some (.slice none 0 0) := b1 BK182 1; have hfz28_0 := blk_frozen BK182.out 0; have hfz28_1 := blk_frozen BK182.out 1))
  refine bodyPost_ret (results_ct rfl _ _ gb182 27 #[.slice none 0 0, .slice none 0 0] (0, 0) _ rfl (by (with_reducible repeat (first | refine blk_drewN ?_ _ | refine blk_drew ?_ | refine blk_alloc ?_ _)); refine blk_put (cs := #[.slice none 0 0, .slice none 0 0]) ?_ 1 _ rfl; (with_reducible repeat (first | refine blk_drewN ?_ _ | refine blk_drew ?_ | refine blk_alloc ?_ _)); refine blk_put (cs := #[.slice none 0 0, .slice none 0 0]) ?_ 0 _ rfl; (with_reducible repeat (first | refine blk_drewN ?_ _ | refine blk_drew ?_ | refine blk_alloc ?_ _)); exact BK182.out) Try.underlying27 rfl (by kernel_rfl)) rfl ?_; exact ⟨_, _, by first | rfl | (simp [errW_none, errW_some] <;> rfl) | (simp [*, errW_none, errW_some] <;> rfl), by first | exact Kd.R_nil _ _ _ _ _ | exact Kd.N_nil _ _ _ _ _ | exact Kd.V_nil _ _ _ _ _ | exact Kd.Q_nil _ _ _ _ _ | exact Kd.S_nil _ _ _ _ _, by first | exact Kd.R_nil _ _ _ _ _ | exact Kd.N_nil _ _ _ _ _ | exact Kd.V_nil _ _ _ _ _ | exact Kd.Q_nil _ _ _ _ _ | exact Kd.S_nil _ _ _ _ _, by repeat (first | (with_reducible first | exact HB.out | apply below_alloc | apply pw_below_drewN | apply below_drew1 | refine below_set ?_ GE181.out | refine below_set ?_ GE182.out) | exact HB.out), by repeat (first | (with_reducible first | exact HK.out | apply Kept.alloc | apply Kept.drewN | apply Kept.drew | refine Kept.setCell ?_ (.inr GW181.out) _ | refine Kept.setCell ?_ (.inr GW182.out) _) | exact HK.out)⟩

/-! ### slices_Grow_int_int: function 74 -/
def slices_Grow_int_int.f (l0 : List Int) (a1 : Int) : Option (List Int) := if l0.length = 0 ∧ 0 ≤ a1 ∧ a1 < 1099511627776 then some [] else none
set_option maxHeartbeats 8000000 in
set_option maxRecDepth 100000 in
theorem slices_Grow_int_int.core (n : Nat) (hn : n < 1099511627776) (w : World) :
    Calls Try.prog 74 #[.slice none 0 0, .int .i64 (n : Int)] w fun e w' => ∃ v0_ : Value, e = .returned (v0_) ∧ Kd.R (Kd.int .i64) 3 w' w.heap.size (fun _ => True) v0_ [] ∧ Below w.heap.size w w' := by
  have hneg : decide ((n : Int) < 0) = false := decide_eq_false (by omega)
  have hw0 : IntKind.i64.wrap (0 - 0) = 0 := by rw [IntKind.wrap_i64]; omega
  have hw1 : IntKind.i64.wrap ((n : Int) - 0) = n := by rw [IntKind.wrap_i64]; omega
  have hw2 : IntKind.i64.wrap (n : Int) = n := by rw [IntKind.wrap_i64]; omega
  by_cases h0 : n = 0
  · subst h0
    have hpos : decide ((0 : Int) < ((0 : Nat) : Int)) = false := decide_eq_false (by omega)
    go_enter Try.func74, Try.ntmps74
    go_wp2
    go_ret
    exact ⟨_, rfl, Kd.R_nil _ _ _ _ _, Below.refl _ _⟩
  · have hpos : decide ((0 : Int) < (n : Int)) = true := decide_eq_true (by omega)
    have hposN : decide (0 < n) = true := decide_eq_true (by omega)
    have hposT : 0 < n := by omega
    have hinf : (Try.prog.info? 3).map (fun i => (i.zero, i.size, i.bytes)) = some (some (.int .i64 0), 1, 8) := by kernel_rfl
    obtain ⟨i0, hi0, _, hsz0, _⟩ := info_parts hinf
    have hcut0 := cut_to (P := Try.prog) 22 3 .i64 Try.underlying22 hi0 none 0 0 0 (by omega) (by omega) (by omega)
    have HINF := Aside0.mk hinf
    have HN := Aside0.mk hn
    have HI := Aside0.mk hi0
    clear hinf hn h0 hi0 hsz0
    go_enter Try.func74, Try.ntmps74
    go_wp2_with (first
      | (at_builtin; refine Kd.R_append_zeros (Kd.int .i64) (w0 := w) w.heap.size rfl (.tmp 20) (.tmp 21) 22 3 3 (.int .i64 0) 8 rfl Try.underlying22 Try.underlying3 HINF.out rfl (by decide) (by omega) (.slice none 0 0) [] (0 : Int) (n : Int) (fun _ => True) rfl rfl ?aZ (fun _ _ => trivial) ?aO ?aN ?aB ?aS ?aL ?_; (case aZ => exact rfl); (case aO => exact Kd.R_nil _ _ _ _ _); (case aN => omega); (case aB => exact Below.refl _ _); (case aS => exact Nat.le_refl _); (case aL => have := HN.out; simp; omega); intro v1 w1 ho hb hg hat; obtain ⟨Ao, co, eo⟩ := Kd.R_slice ho; subst eo; have HO := Aside0.mk ho; have HB := Aside0.mk hb; have hcut1 := cut_to (P := Try.prog) 22 3 .i64 Try.underlying22 HI.out Ao ([] ++ List.replicate (n : Int).toNat (0 : Int)).length co 0 (by omega) (by omega) (Kd.R_reads' ho).2.1; clear ho hb hg hat))
    go_ret
    exact ⟨_, rfl, by have := Kd.R_take (m := 0) HO.out (by omega); simpa using this, HB.out⟩
theorem slices_Grow_int_int.calls (A0 : Option Addr) (c0 : Nat) (l0 : List Int) (a1 : Int) (r : List Int) (w : World) (hr0 : Kd.C (Kd.int .i64) w A0 l0.length l0) (hc0 : l0.length ≤ c0) (h : slices_Grow_int_int.f l0 a1 = some r) :
    Calls Try.prog 74 #[.slice none 0 0, .int .i64 a1] w fun e w' => ∃ v0_ : Value, e = .returned (v0_) ∧ Kd.R (Kd.int .i64) 3 w' w.heap.size (fun _ => True) v0_ r ∧ Below w.heap.size w w' := by
  unfold slices_Grow_int_int.f at h
  by_cases hl : l0.length = 0 ∧ 0 ≤ a1 ∧ a1 < 1099511627776
  · rw [if_pos hl] at h
    obtain rfl := Option.some.inj h
    have := slices_Grow_int_int.core a1.toNat (by omega) w
    rwa [show ((a1.toNat : Nat) : Int) = a1 by omega] at this
  · rw [if_neg hl] at h
    cases h


/-! ### slices_Concat_int_int: function 61 -/
mutual
def slices_Concat_int_int.l0 : Nat → List (List Int) → Int → List (List Int) → Int → Int → Option (List Int)
 | 0, _, _, _, _, _ => none
 | k + 1, x0, x3, x9, x10, x11 => if x11 < x10 then (if 0 ≤ x11 then (if x11 < (x9.length : Int) then (if (wrap64 (x3 + ((rd_L1 x9 x11).length : Int))) < 0 then (none) else (slices_Concat_int_int.l0 k x0 (wrap64 (x3 + ((rd_L1 x9 x11).length : Int))) x9 x10 (wrap64 (x11 + 1)))) else (none)) else (none)) else ((slices_Grow_int_int.f ([] : List Int) x3).bind fun t185 => (slices_Concat_int_int.l1 k t185 x0 (x0.length : Int) 0))
def slices_Concat_int_int.l1 : Nat → List Int → List (List Int) → Int → Int → Option (List Int)
 | 0, _, _, _, _ => none
 | k + 1, x6, x25, x26, x27 => if x27 < x26 then (if 0 ≤ x27 then (if x27 < (x25.length : Int) then (if x6.length + (rd_L1 x25 x27).length < 17592186044416 then (slices_Concat_int_int.l1 k (x6 ++ (rd_L1 x25 x27)) x25 x26 (wrap64 (x27 + 1))) else (none)) else (none)) else (none)) else (some x6)
end
def slices_Concat_int_int.f (k : Nat) (l0 : List (List Int)) : Option (List Int) := slices_Concat_int_int.l0 k l0 0 l0 (l0.length : Int) 0
theorem slices_Concat_int_int.mono_l : ∀ k, (∀ y0 y1 y2 y3 y4, LeO (slices_Concat_int_int.l0 k y0 y1 y2 y3 y4) (slices_Concat_int_int.l0 (k + 1) y0 y1 y2 y3 y4)) ∧ (∀ y0 y1 y2 y3, LeO (slices_Concat_int_int.l1 k y0 y1 y2 y3) (slices_Concat_int_int.l1 (k + 1) y0 y1 y2 y3))
 | 0 => ⟨fun _ _ _ _ _ r h => by simp [slices_Concat_int_int.l0] at h, fun _ _ _ _ r h => by simp [slices_Concat_int_int.l1] at h⟩
 | k + 1 => by
  obtain ⟨ih0, ih1⟩ := slices_Concat_int_int.mono_l k
  refine ⟨?_, ?_⟩
  ·intro y0 y1 y2 y3 y4
   unfold slices_Concat_int_int.l0
   repeat' first
   | (with_reducible exact ih0 _ _ _ _ _)
   | (with_reducible exact ih1 _ _ _ _)
   | (with_reducible exact LeO.refl _)
   | (with_reducible exact LeO.none _)
   | (with_reducible refine LeO.ite ?_ ?_)
   | (with_reducible refine LeO.bind ?_ (fun _ => ?_))
   | exact ih0 _ _ _ _ _
   | exact ih1 _ _ _ _
   | exact LeO.none _
   | refine LeO.ite ?_ ?_
   | refine LeO.bind ?_ (fun _ => ?_)
  ·intro y0 y1 y2 y3
   unfold slices_Concat_int_int.l1
   repeat' first
   | (with_reducible exact ih0 _ _ _ _ _)
   | (with_reducible exact ih1 _ _ _ _)
   | (with_reducible exact LeO.refl _)
   | (with_reducible exact LeO.none _)
   | (with_reducible refine LeO.ite ?_ ?_)
   | (with_reducible refine LeO.bind ?_ (fun _ => ?_))
   | exact ih0 _ _ _ _ _
   | exact ih1 _ _ _ _
   | exact LeO.none _
   | refine LeO.ite ?_ ?_
   | refine LeO.bind ?_ (fun _ => ?_)
theorem slices_Concat_int_int.mono : ∀ a0 k, LeO (slices_Concat_int_int.f k a0) (slices_Concat_int_int.f (k + 1) a0) := by
 intro a0 k
 obtain ⟨ih0, ih1⟩ := slices_Concat_int_int.mono_l k
 unfold slices_Concat_int_int.f
 repeat' first
   | (with_reducible exact ih0 _ _ _ _ _)
   | (with_reducible exact ih1 _ _ _ _)
   | (with_reducible exact LeO.refl _)
   | (with_reducible exact LeO.none _)
   | (with_reducible refine LeO.ite ?_ ?_)
   | (with_reducible refine LeO.bind ?_ (fun _ => ?_))
   | exact ih0 _ _ _ _ _
   | exact ih1 _ _ _ _
   | exact LeO.none _
   | refine LeO.ite ?_ ?_
   | refine LeO.bind ?_ (fun _ => ?_)
open Go.Proofs.Ythkljpbddddhdaa.Short2 in
set_option maxHeartbeats 8000000 in
set_option maxRecDepth 100000 in
theorem slices_Concat_int_int.calls (k : Nat) (A0 : Option Addr) (c0 : Nat) (l0 : List (List Int)) (r : List Int) (w : World) (hr0 : Kd.C (Kd.slice 3 (Kd.int .i64)) w A0 l0.length l0) (hc0 : l0.length ≤ c0) (h : slices_Concat_int_int.f k l0 = some r) :
  Calls Try.prog 61 #[.slice A0 l0.length c0] w fun e w' => ∃ v0_ : Value, e = .returned (v0_) ∧ Kd.R (Kd.int .i64) 3 w' w.heap.size (fun _ => True) v0_ r ∧ Below w.heap.size w w' := by
 have HR0 := Aside0.mk hr0; have HC0 := Aside0.mk hc0; clear hr0 hc0; have HB := Aside0.mk (Below.refl w.heap.size w); have H : (slices_Concat_int_int.l0 k l0 0 l0 (l0.length : Int) 0) = some r := h; clear h; have H' := Aside0.mk H; clear H
 go_enter Try.func61, Try.ntmps61
 go_wp2
 go_loopg [3, 11] k (fun kq v3 v11 w' => ∃ (x3_1 : Int) (x11_1 : Int), v3 = .int .i64 x3_1 ∧ v11 = .int .i64 x11_1 ∧ Aside0 (slices_Concat_int_int.l0 kq l0 x3_1 l0 (l0.length : Int) x11_1 = some r) ∧ Aside0 (kq ≤ k) ∧ Aside0 (Below w.heap.size w w'))
 case atStart => exact ⟨(0), (0), (by first | rfl | (simp; done) | (simp [*]; done) | (rw [Int.tmod_eq_emod_of_nonneg (Int.natCast_nonneg _)]; done)), (by first | rfl | (simp; done) | (simp [*]; done) | (rw [Int.tmod_eq_emod_of_nonneg (Int.natCast_nonneg _)]; done)), H', ⟨Nat.le_refl _⟩, ⟨zS HB.out⟩⟩
 case round =>
  clear H'; obtain ⟨x3_1, x11_1, rfl, rfl, HA, HK1, HB⟩ := hrel
  cases gk with
  | zero => exact absurd HA.out (by simp [slices_Concat_int_int.l0])
  | succ k1 =>
   have H := HA.out; clear HA; simp only [slices_Concat_int_int.l0] at H
   by_cases c2 : x11_1 < (l0.length : Int)
   ·rw [if_pos c2] at H; have c2b0 : decide (x11_1 < (l0.length : Int)) = true := decide_eq_true c2; clear c2
    by_cases c3 : 0 ≤ x11_1
    ·rw [if_pos c3] at H; have c3b0 : decide (0 ≤ x11_1) = true := decide_eq_true c3; clear c3
     by_cases c4 : x11_1 < (l0.length : Int)
     ·rw [if_pos c4] at H; have c4b0 : decide (x11_1 < (l0.length : Int)) = true := decide_eq_true c4; clear c4
      by_cases c5 : (wrap64 (x3_1 + ((rd_L1 l0 x11_1).length : Int))) < 0
      ·rw [if_pos c5] at H; exact absurd H (by simp)
      ·rw [if_neg c5] at H; have c5b0 : decide ((wrap64 (x3_1 + ((rd_L1 l0 x11_1).length : Int))) < 0) = false := decide_eq_false c5; clear c5; have H' := Aside0.mk H; clear H; have p184 : 0 ≤ (x11_1 : Int) := of_decide_eq_true (by first | (with_reducible assumption) | assumption); have q184 : x11_1 < (l0.length : Int) := of_decide_eq_true (by first | (with_reducible assumption) | assumption); obtain ⟨ad184, A184_0, c184_0, e184, hx184_0, hl184_0, hi184_0⟩ := at_L1 HR0.out x11_1 p184 q184
       cases e184
       replace hx184_0 := (HB.out.cell (World.block_lt_of_cell? w _ hx184_0)).trans hx184_0; have HR184_0 := Aside0.mk hi184_0; have HC184_0 := Aside0.mk hl184_0; clear hi184_0 hl184_0; replace p184 := eq_true p184; replace q184 := eq_true q184
       go_wp2
       go_roundg k1
       case measure => have := HK1.out; omega
       case rel => exact ⟨(wrap64 (x3_1 + ((rd_L1 l0 x11_1).length : Int))), (wrap64 (x11_1 + 1)), (by first | rfl | (simp; done) | (simp [*]; done) | (rw [Int.tmod_eq_emod_of_nonneg (Int.natCast_nonneg _)]; done)), (by first | rfl | (simp; done) | (simp [*]; done) | (rw [Int.tmod_eq_emod_of_nonneg (Int.natCast_nonneg _)]; done)), H', ⟨by have := HK1.out; omega⟩, ⟨zS HB.out⟩⟩
     ·rw [if_neg c4] at H; exact absurd H (by simp)
    ·rw [if_neg c3] at H; exact absurd H (by simp)
   ·rw [if_neg c2] at H; have c2b0 : decide (x11_1 < (l0.length : Int)) = false := decide_eq_false c2; clear c2; replace H := Option.bind_eq_some_iff.mp H; obtain ⟨t185, A60, H⟩ := H; replace H : (slices_Concat_int_int.l1 k1 t185 l0 (l0.length : Int) 0) = some r := H; have A6 := Aside0.mk A60; clear A60; have H' := Aside0.mk H; clear H
    go_wp2_with (first | ((with_reducible refine gate_callee (f := 74) rfl ?_); refine goesL_ (some 24) rfl rfl Try.func74 (by kernel_rfl) rfl #[.slice none 0 0, .int .i64 x3_1] rfl (by (try simp only [m3]); first | done | rfl | (simp only [d2]; rfl)) ?_; (refine (slices_Grow_int_int.calls none 0 ([] : List Int) x3_1 t185 _ ?side1 ?side2 A6.out).mono ?_); (case side1 => exact Kd.C_nil _ _); (case side2 => exact Nat.le_refl _); rintro e w7 ⟨v186, rfl, ho0, hb⟩; refine ⟨_, rfl, ?_⟩; have HO187 := Aside0.mk (Kd.R_lower ho0 (below_size (zS HB.out))); replace HB := xS HB hb; (try clear hb); (try clear hb2); (try clear hk); (try clear hi); (try clear ho0)))
    go_loopg [6, 27] k1 (fun kq v6 v27 w' => ∃ (x6_2 : List Int) (x27_2 : Int), v27 = .int .i64 x27_2 ∧ Aside0 (slices_Concat_int_int.l1 kq x6_2 l0 (l0.length : Int) x27_2 = some r) ∧ Aside0 (kq ≤ k1) ∧ Aside0 (Kd.R (Kd.int .i64) 3 w' w.heap.size (fun _ => True) v6 x6_2) ∧ Aside0 (Below w.heap.size w w'))
    case atStart => exact ⟨(t185), (0), (by first | rfl | (simp; done) | (simp [*]; done) | (rw [Int.tmod_eq_emod_of_nonneg (Int.natCast_nonneg _)]; done)), H', ⟨Nat.le_refl _⟩, ⟨zR HO187.out⟩, ⟨zS HB.out⟩⟩
    case round =>
     clear H'
     try clear c1
     try clear p1
     try clear q1
     try clear hx1
     try clear c2
     try clear c2b0
     try clear p2
     try clear c3
     try clear c3b0
     try clear c4
     try clear c4b0
     try clear c5
     try clear c5b0
     try clear c6
     try clear p6
     try clear c7
     try clear hx184_0
     try clear p184
     try clear q184
     obtain ⟨x6_2, x27_2, rfl, HA, HK2, HO_6, HB⟩ := hrel
     cases gk with
     | zero => exact absurd HA.out (by simp [slices_Concat_int_int.l1])
     | succ k2 =>
      have H := HA.out; clear HA; simp only [slices_Concat_int_int.l1] at H
      by_cases c8 : x27_2 < (l0.length : Int)
      ·rw [if_pos c8] at H; have c8b0 : decide (x27_2 < (l0.length : Int)) = true := decide_eq_true c8; clear c8
       by_cases c9 : 0 ≤ x27_2
       ·rw [if_pos c9] at H; have c9b0 : decide (0 ≤ x27_2) = true := decide_eq_true c9; clear c9
        by_cases c10 : x27_2 < (l0.length : Int)
        ·rw [if_pos c10] at H; have c10b0 : decide (x27_2 < (l0.length : Int)) = true := decide_eq_true c10; clear c10
         by_cases c11 : x6_2.length + (rd_L1 l0 x27_2).length < 17592186044416
         ·rw [if_pos c11] at H; have LMc11 := Aside0.mk c11; clear c11; obtain ⟨y189, hy189⟩ : ∃ y_ : List Int, y_ = (x6_2 ++ (rd_L1 l0 x27_2)) := ⟨_, rfl⟩
          replace H : (slices_Concat_int_int.l1 k2 y189 l0 (l0.length : Int) (wrap64 (x27_2 + 1))) = some r := by first | (rw [hy189]; with_reducible exact H) | (have H2_ := (Option.bind_some _ _).symm.trans H; rw [hy189]; with_reducible exact H2_) | (have H2_ := (Option.bind_some _ _).symm.trans H; with_reducible exact H2_) | with_reducible exact H | (rw [hy189]; exact H) | exact H
          have Ny189 := Aside0.mk hy189; clear hy189; have H' := Aside0.mk H; clear H; have p188 : 0 ≤ (x27_2 : Int) := of_decide_eq_true (by first | (with_reducible assumption) | assumption); have q188 : x27_2 < (l0.length : Int) := of_decide_eq_true (by first | (with_reducible assumption) | assumption); obtain ⟨ad188, A188_0, c188_0, e188, hx188_0, hl188_0, hi188_0⟩ := at_L1 HR0.out x27_2 p188 q188
          cases e188
          replace hx188_0 := (HB.out.cell (World.block_lt_of_cell? w _ hx188_0)).trans hx188_0; have HR188_0 := Aside0.mk hi188_0; have HC188_0 := Aside0.mk hl188_0; clear hi188_0 hl188_0; replace p188 := eq_true p188; replace q188 := eq_true q188
          go_wp2_with (first | ((with_reducible refine gate_builtin (b := .append) (xs := #[.tmp 31, .tmp 32]) rfl ?_); at_builtin; refine Kd.R_append_rows (Kd.int .i64) (w0 := w) w.heap.size rfl (.tmp 31) (.tmp 32) 22 3 (.int .i64 0) 8 rfl Try.underlying22 info3 rfl (by decide) (by omega) u6 x6_2 (rd_L1 l0 x27_2) _ _ _ (fun _ => True) (fun _ => False) rfl rfl ?aO ?aR (fun _ _ h => h) (fun _ h => h.elim) ?aF ?aB ?aS ?aL ?_; (case aR => repeat (first | exact (Kd.C_below HR188_0.out HB.out) | (with_reducible refine Kd.C_alloc ?_ _) | (with_reducible refine Kd.C_drewN ?_ _) | (with_reducible refine Kd.C_drew ?_))); (case aB => exact (zS HB.out)); (case aF => exact (fun _ _ => trivial)); (case aO => exact (zR HO_6.out)); (case aS => exact (below_size (zS HB.out))); (case aL => have := LMc11.out; omega); intro v190 w12 ho hb hg hat; rw [← Ny189.out] at ho; have n0_ := Aside0.mk (hb); have n1_ := Aside0.mk (ho); clear HB; clear HO_6; have HB := n0_; have HO191 := n1_; clear n0_ n1_; clear ho hb hg hat))
          go_roundg k2
          case measure => have := HK1.out; have := HK2.out; omega
          case rel => exact ⟨(y189), (wrap64 (x27_2 + 1)), (by first | rfl | (simp; done) | (simp [*]; done) | (rw [Int.tmod_eq_emod_of_nonneg (Int.natCast_nonneg _)]; done)), H', ⟨by have := HK1.out; have := HK2.out; omega⟩, ⟨zR HO191.out⟩, ⟨zS HB.out⟩⟩
         ·rw [if_neg c11] at H; exact absurd H (by simp)
        ·rw [if_neg c10] at H; exact absurd H (by simp)
       ·rw [if_neg c9] at H; exact absurd H (by simp)
      ·rw [if_neg c8] at H; have c8b0 : decide (x27_2 < (l0.length : Int)) = false := decide_eq_false c8; clear c8; obtain rfl := Option.some.inj H
       go_wp2
       go_ret; exact ⟨_, by first | rfl | (simp [errW_none, errW_some] <;> rfl) | (simp [*, errW_none, errW_some] <;> rfl), by (with_reducible repeat (first | apply Kd.R_alloc | apply Kd.R_drewN | apply Kd.R_drew)); exact HO_6.out, by repeat (first | (with_reducible first | exact HB.out | apply below_alloc | apply pw_below_drewN | apply below_drew1) | exact HB.out)⟩

/-! ### slices_Clone_int_int: function 62 -/
def slices_Clone_int_int.f (l0 : List Int) : Option (List Int) := if l0.length < 17592186044416 then some l0 else none
set_option maxHeartbeats 8000000 in
set_option maxRecDepth 100000 in
theorem slices_Clone_int_int.calls (A0 : Option Addr) (c0 : Nat) (l0 : List Int) (r : List Int) (w : World) (hr0 : Kd.C (Kd.int .i64) w A0 l0.length l0) (hc0 : l0.length ≤ c0) (h : slices_Clone_int_int.f l0 = some r) :
    Calls Try.prog 62 #[.slice A0 l0.length c0] w fun e w' => ∃ v0_ : Value, e = .returned (v0_) ∧ Kd.R (Kd.int .i64) 3 w' w.heap.size (fun _ => True) v0_ r ∧ Below w.heap.size w w' := by
  unfold slices_Clone_int_int.f at h
  by_cases hl : l0.length < 17592186044416
  · rw [if_pos hl] at h
    obtain rfl := Option.some.inj h
    have hinf : (Try.prog.info? 3).map (fun i => (i.zero, i.size, i.bytes)) = some (some (.int .i64 0), 1, 8) := by kernel_rfl
    have HINF := Aside0.mk hinf
    have HL := Aside0.mk hl
    have HR0 := Aside0.mk hr0
    have HC0 := Aside0.mk hc0
    clear hl h hr0 hc0 hinf
    have heq := fun (w : World) (a : Option Addr) (n c : Nat) => Lib.run_eql_slice_nil (P := Try.prog) w 22 3 a n c 0 0 Try.underlying22
    rcases A0 with _ | ad
    · have hl0 : l0 = [] := by
        rcases Nat.eq_zero_or_pos l0.length with h0 | h0
        · exact List.eq_nil_of_length_eq_zero h0
        · obtain ⟨ad, he, _⟩ := HR0.out.2.2 h0
          cases he
      subst hl0
      go_enter Try.func62, Try.ntmps62
      go_wp2
      go_ret
      exact ⟨_, rfl, Kd.R_nil _ _ _ _ _, Below.refl _ _⟩
    · go_enter Try.func62, Try.ntmps62
      go_wp2_with (first
        | ((with_reducible refine gate_dst (N := 5) rfl ?_); refine Kd.R_lit (Kd.int .i64) _ 3 ?hg (N := 5) ?hd (xs := ([] : List Int)) (inner := []) (ok := fun _ => True) (okp := fun _ => True) ?hr ?hp (fun _ hk => hk) trivial (Below.refl _ _) (Nat.le_refl _) (by simp) ?_; (case hd => rfl); (case hg => rfl); (case hr => first | (go_simp; done) | (go_simp; rfl)); (case hp => exact (Reps.none _ _)); intro v1 w1 ho1 hb1 _ _; have HO1 := Aside0.mk ho1; have HB1 := Aside0.mk hb1; clear ho1 hb1)
        | (at_builtin; refine Kd.R_append_rows (Kd.int .i64) (w0 := w) w.heap.size rfl (.tmp 5) (.tmp 6) 22 3 (.int .i64 0) 8 rfl Try.underlying22 HINF.out rfl (by decide) (by omega) v1 [] l0 _ _ _ (fun _ => True) (fun _ => False) rfl rfl ?aO ?aR (fun _ _ h => h) (fun _ h => h.elim) ?aF ?aB ?aS ?aL ?_; (case aR => exact Kd.C_below HR0.out HB1.out); (case aB => exact HB1.out); (case aF => exact (fun _ _ => trivial)); (case aO => exact HO1.out); (case aS => exact HB1.out.size); (case aL => have := HL.out; simp; omega); intro v2 w2 ho hb hg hat; have HO2 := Aside0.mk ho; have HB2 := Aside0.mk hb; clear ho hb hg hat))
      go_ret
      exact ⟨_, rfl, HO2.out, HB2.out⟩
  · rw [if_neg hl] at h
    cases h

end Go.Proofs.Ythkljpbddddhdaa.MFnExactWordJoin
