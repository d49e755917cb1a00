-- Written by a program of this session, out of Lean's print of the translation. Not trusted: Lean checks it.
import Derived.Test.YthkljpbddddhdaaMFnExactWordPowerx0
import Derived.Test.YthkljpbddddhdaaMFnExactWordPowerx2
namespace Go.Proofs.Ythkljpbddddhdaa.MFnExactWordPower
open Go.RowKit Go.Proofs.YthkljpbddddhdaaW.PrintWords Go.Proofs.YthkljpbddddhdaaW.PrintLast Go.Proofs.YthkljpbddddhdaaW.PrintMore
attribute [local go_sem] max2_int min2_int max_two min_two max_three min_three max_four min_four   -- for this text's walks alone
set_option linter.unusedVariables false
set_option linter.unusedSimpArgs false

section
open Go.Proofs.Ythkljpbddddhdaa.Short2.T
abbrev impl_WordPower.bl0 : Array Bool := #[f, f, f, f, f, f, f, f, f, f, f, f, f]
abbrev impl_WordPower.bl1 : Array Bool := #[t, f, f, f, f, f, f, f, f, f, f, f, f]
abbrev impl_WordPower.bl2 : Array Bool := #[t, f, f, t, f, f, f, f, f, f, f, f, f]
abbrev impl_WordPower.bl3 : Array Bool := #[t, f, f, t, f, t, f, f, f, f, f, f, f]
abbrev impl_WordPower.bl4 : Array Bool := #[t, t, f, t, f, t, f, f, f, f, f, f, f]
abbrev impl_WordPower.bl5 : Array Bool := #[t, t, f, t, t, t, f, f, f, f, f, f, f]
abbrev impl_WordPower.bl6 : Array Bool := #[t, t, t, t, t, t, f, f, f, f, f, f, f]
abbrev impl_WordPower.bl7 : Array Bool := #[t, t, t, t, t, t, t, f, f, f, f, f, f]
abbrev impl_WordPower.bl8 : Array Bool := #[t, t, t, t, t, t, t, t, f, f, f, f, f]
abbrev impl_WordPower.bl9 : Array Bool := #[t, t, t, t, t, t, t, t, t, f, f, f, f]
abbrev impl_WordPower.bl10 : Array Bool := #[t, t, t, t, t, t, t, t, t, t, f, f, f]
abbrev impl_WordPower.bl11 : Array Bool := #[t, t, t, t, t, t, t, t, t, t, t, f, f]
abbrev impl_WordPower.bl12 : Array Bool := #[t, t, t, t, t, t, t, t, t, t, t, t, f]
abbrev impl_WordPower.bl13 : Array Bool := #[t, t, t, t, t, t, t, t, t, t, t, t, t]
end
/-! ### impl_WordPower: function 39 -/
def impl_WordPower.j0 : Nat → Int → Bool → List Int → List Int → Option (List Int × List Int × Bool)
 | 0, _, _, _, _ => none
 | k + 1, x1, x13, x183000, x183001 => if x13 = true then (some (([] : List Int), ([] : List Int), false)) else ((slices_Clone_int_int.f x183000).bind fun t186 => ((slices_Repeat_int_int.f x183001 x1).bind fun t189 => ((impl_rightOr.f k t186 t189 true).bind fun bt192 => (some (bt192.1, bt192.2.1, bt192.2.2)))))
def impl_WordPower.f (k : Nat) (l0_0 : List Int) (l0_1 : List Int) (a1 : Int) : Option (List Int × List Int × Bool) := (impl_inRange.f a1 1 40).bind fun t184 => (if t184 = true then ((impl_isRight.f k l0_0 l0_1).bind fun t185 => (impl_WordPower.j0 k a1 (!t185) l0_0 l0_1)) else (impl_WordPower.j0 k a1 true l0_0 l0_1))
theorem impl_WordPower.mono_l : ∀ k, (∀ y0 y1 y2 y3, LeO (impl_WordPower.j0 k y0 y1 y2 y3) (impl_WordPower.j0 (k + 1) y0 y1 y2 y3))
 | 0 => fun _ _ _ _ r h => by simp [impl_WordPower.j0] at h
 | k + 1 => by
  have ih0 := impl_WordPower.mono_l k
  ·intro y0 y1 y2 y3
   unfold impl_WordPower.j0
   repeat' first
   | (with_reducible exact ih0 _ _ _ _)
   | (with_reducible exact impl_isRight.mono _ _ _)
   | (with_reducible exact impl_rightOr.mono _ _ _ _)
   | (with_reducible exact LeO.refl _)
   | (with_reducible exact LeO.none _)
   | (with_reducible refine LeO.ite ?_ ?_)
   | (with_reducible refine LeO.bind ?_ (fun _ => ?_))
   | exact ih0 _ _ _ _
   | exact impl_isRight.mono _ _ _
   | exact impl_rightOr.mono _ _ _ _
   | exact LeO.none _
   | refine LeO.ite ?_ ?_
   | refine LeO.bind ?_ (fun _ => ?_)
theorem impl_WordPower.mono : ∀ a0 a1 a2 k, LeO (impl_WordPower.f k a0 a1 a2) (impl_WordPower.f (k + 1) a0 a1 a2) := by
 intro a0 a1 a2 k
 have ih0 := impl_WordPower.mono_l k
 unfold impl_WordPower.f
 repeat' first
   | (with_reducible exact ih0 _ _ _ _)
   | (with_reducible exact impl_isRight.mono _ _ _)
   | (with_reducible exact impl_rightOr.mono _ _ _ _)
   | (with_reducible exact LeO.refl _)
   | (with_reducible exact LeO.none _)
   | (with_reducible refine LeO.ite ?_ ?_)
   | (with_reducible refine LeO.bind ?_ (fun _ => ?_))
   | exact ih0 _ _ _ _
   | exact impl_isRight.mono _ _ _
   | exact impl_rightOr.mono _ _ _ _
   | exact LeO.none _
   | refine LeO.ite ?_ ?_
   | refine LeO.bind ?_ (fun _ => ?_)
def impl_WordPower.T3 : Bool × List (List Nat × List Nat) := (true, [([], []), ([0], [0]), ([1], [1]), ([], []), ([3], [3]), ([], []), ([4, 5, 2], [4, 5]), ([2, 6], [2, 6]), ([7, 6], [7]), ([8], [8]), ([8], [8]), ([9, 8, 0, 1, 2, 3, 4, 5, 6, 7, 8, 9, 10], [9]), ([10, 11, 0, 1, 2, 3, 4, 5, 6, 7, 8, 9, 10, 11], [10])])
def impl_WordPower.B3 : List Nat := [0, 1, 3, 0, 8, 0, 63, 127, 255, 511, 511, 2047, 4095]
theorem impl_WordPower.tab3 : rtab .any (opsOf Try.f39 3) = impl_WordPower.T3 := by kernel_rfl
theorem impl_WordPower.bits3 : waitsOk impl_WordPower.T3.2 impl_WordPower.B3 = true := by kernel_rfl
open Go.Proofs.Ythkljpbddddhdaa.Short2 in
set_option maxHeartbeats 8000000 in
set_option maxRecDepth 100000 in
theorem impl_WordPower.calls (k : Nat) (A0_0 : Option Addr) (c0_0 : Nat) (l0_0 : List Int) (A0_1 : Option Addr) (c0_1 : Nat) (l0_1 : List Int) (a1 : Int) (r1 : List Int) (r2 : List Int) (r3 : Bool) (w : World) (hr0_0 : Kd.C (Kd.int .i64) w A0_0 l0_0.length l0_0) (hc0_0 : l0_0.length ≤ c0_0) (hr0_1 : Kd.C (Kd.int .i64) w A0_1 l0_1.length l0_1) (hc0_1 : l0_1.length ≤ c0_1) (h : impl_WordPower.f k l0_0 l0_1 a1 = some (r1, r2, r3)) :
  Calls Try.prog 39 #[.agg #[.slice A0_0 l0_0.length c0_0, .slice A0_1 l0_1.length c0_1], .int .i64 a1] w fun e w' => ∃ v0_ v1_ : Value, e = .returned (.tuple #[.agg #[v0_, v1_], .bool r3]) ∧ Kd.R (Kd.int .i64) 3 w' w.heap.size (fun k_ => some k_ ≠ (v1_ : Value).ownBlock) v0_ r1 ∧ Kd.R (Kd.int .i64) 3 w' w.heap.size (fun k_ => some k_ ≠ (v0_ : Value).ownBlock) v1_ r2 ∧ Below w.heap.size w w' := by
 have hu27 := Try.underlying27; have HR0_0 := Aside0.mk hr0_0; have HC0_0 := Aside0.mk hc0_0; clear hr0_0 hc0_0; have HR0_1 := Aside0.mk hr0_1; have HC0_1 := Aside0.mk hc0_1; clear hr0_1 hc0_1; have HB := Aside0.mk (Below.refl w.heap.size w); have H : ((impl_inRange.f a1 1 40).bind fun t184 => (if t184 = true then ((impl_isRight.f k l0_0 l0_1).bind fun t185 => (impl_WordPower.j0 k a1 (!t185) l0_0 l0_1)) else (impl_WordPower.j0 k a1 true l0_0 l0_1))) = some (r1, r2, r3) := h; clear h; have HC3 := Aside0.mk H; clear H
 go_enter Try.func39, Try.ntmps39
 go_upto_region 1 with (first | ((with_reducible refine gate_dst (N := 2) rfl ?_); refine box_event ?hg (N := 2) ?hd (cs := #[.slice A0_0 l0_0.length c0_0, .slice A0_1 l0_1.length c0_1]) (t := 27) ?hr ?_; (case hd => rfl); (case hg => rfl); (case hr => first | (go_simp; done) | (go_simp; rfl)); intro gb182 hg w4 hbox hb; have BK182 := Aside0.mk (hbox); have GW182 := xG HB hg; have GE182 := xG HB hg; replace HB := xS HB hb; clear hb hbox hg) | ((with_reducible refine gate_dst (N := 4) rfl ?_); refine box_event ?hg (N := 4) ?hd (cs := #[.slice none 0 0, .slice none 0 0]) (t := 27) ?hr ?_; (case hd => rfl); (case hg => rfl); (case hr => first | (go_simp; done) | (go_simp; rfl)); intro gb183 hg w5 hbox hb; have BK183 := Aside0.mk (hbox); have GW183 := xG HB hg; have GE183 := xG HB hg; replace HB := xS HB hb; have NB182_183 := xN BK182 hg; have NB183_182 := xM BK182 hg; replace BK182 := xB BK182 hb; clear hb hbox hg))
 (try simp only [Act.put, q3])
 go_cut [13] (fun v13 wc => ∃ (kq : Nat) (x13_2 : Bool), v13 = .bool x13_2 ∧ Aside0 (impl_WordPower.j0 kq a1 x13_2 l0_0 l0_1 = some (r1, r2, r3)) ∧ Aside0 (kq ≤ k) ∧ Aside0 (wc.heap[gb182]? = some (.cells #[(.slice A0_0 l0_0.length c0_0), (.slice A0_1 l0_1.length c0_1)] 27 (0, 0))) ∧ Aside0 (wc.heap[gb183]? = some (.cells #[(.slice none 0 0), (.slice none 0 0)] 27 (0, 0))) ∧ Aside0 (Below w.heap.size w wc))
 case first =>
  have H := HC3.out; clear HC3; replace H := Option.bind_eq_some_iff.mp H; obtain ⟨t184, A60, H⟩ := H; replace H : (if t184 = true then ((impl_isRight.f k l0_0 l0_1).bind fun t185 => (impl_WordPower.j0 k a1 (!t185) l0_0 l0_1)) else (impl_WordPower.j0 k a1 true l0_0 l0_1)) = some (r1, r2, r3) := H; have A6 := Aside0.mk A60; clear A60
  by_cases c7 : t184 = true
  ·subst c7
   have H1 : ((impl_isRight.f k l0_0 l0_1).bind fun t185 => (impl_WordPower.j0 k a1 (!t185) l0_0 l0_1)) = some (r1, r2, r3) := by rw [if_pos rfl] at H; exact H
   clear H; have H := H1; clear H1; replace H := Option.bind_eq_some_iff.mp H; obtain ⟨t185, A80, H⟩ := H; replace H : (impl_WordPower.j0 k a1 (!t185) l0_0 l0_1) = some (r1, r2, r3) := H; have A8 := Aside0.mk A80; clear A80; have H' := Aside0.mk H; clear H
   go_wp2_with (first | ((with_reducible refine gate_callee (f := 52) rfl ?_); refine goesL_ (some 7) rfl rfl Try.func52 (by kernel_rfl) rfl #[.int .i64 a1, .int .i64 1, .int .i64 40] rfl (by (try simp only [m3]); first | done | rfl | (simp only [d2]; rfl)) ?_; (with_reducible refine (impl_inRange.calls a1 1 40 true _ A6.out).mono ?_); rintro e w' ⟨rfl, ⟨nd, rfl⟩⟩; refine ⟨_, rfl, ?_⟩; have hnb9 := NB182_183.out; have hnc9 := NB183_182.out; have hcz10_0 : w5.cell? ⟨gb182, 0, none⟩ = some (.slice A0_0 l0_0.length c0_0) := b1 BK182 0; have hcz10_1 : w5.cell? ⟨gb182, 1, none⟩ = some (.slice A0_1 l0_1.length c0_1) := b1 BK182 1; have hfz10_0 := blk_frozen BK182.out 0; have hfz10_1 := blk_frozen BK182.out 1) | (go_at_call 56; (with_reducible refine (impl_isRight.calls k _ _ l0_0 _ _ l0_1 t185 _ ?side1 ?side2 ?side3 ?side4 A8.out).mono ?_); (case side1 => repeat (first | exact (Kd.C_below HR0_0.out (zS HB.out)) | (with_reducible refine Kd.C_alloc ?_ _) | (with_reducible refine Kd.C_drewN ?_ _) | (with_reducible refine Kd.C_drew ?_))); (case side2 => exact HC0_0.out); (case side3 => repeat (first | exact (Kd.C_below HR0_1.out (zS HB.out)) | (with_reducible refine Kd.C_alloc ?_ _) | (with_reducible refine Kd.C_drewN ?_ _) | (with_reducible refine Kd.C_drew ?_))); (case side4 => exact HC0_1.out); rintro e w11 ⟨rfl, hb⟩; replace BK182 := xB BK182 hb; replace BK183 := xB BK183 hb; replace HB := xS HB hb; (try clear hb); (try clear hb2); (try clear hk); (try clear hi)))
   go_meet
   case rel => exact ⟨_, (!t185), (by first | rfl | (simp; done) | (simp [*]; done) | (rw [Int.tmod_eq_emod_of_nonneg (Int.natCast_nonneg _)]; done)), H', ⟨by first | omega | exact Nat.le_refl _⟩, ⟨zB BK182.out⟩, ⟨zB BK183.out⟩, ⟨zS HB.out⟩⟩
  ·replace c7 := Bool.eq_false_iff.mpr c7; subst c7
   have H1 : (impl_WordPower.j0 k a1 true l0_0 l0_1) = some (r1, r2, r3) := by rw [if_neg (show ¬ (false = true) by decide)] at H; exact H
   clear H; have H := H1; clear H1; have H' := Aside0.mk H; clear H
   go_wp2_with (first | ((with_reducible refine gate_callee (f := 52) rfl ?_); refine goesL_ (some 7) rfl rfl Try.func52 (by kernel_rfl) rfl #[.int .i64 a1, .int .i64 1, .int .i64 40] rfl (by (try simp only [m3]); first | done | rfl | (simp only [d2]; rfl)) ?_; (with_reducible refine (impl_inRange.calls a1 1 40 false _ A6.out).mono ?_); rintro e w' ⟨rfl, ⟨nd, rfl⟩⟩; refine ⟨_, rfl, ?_⟩))
   go_meet
   case rel => exact ⟨_, (true), (by first | rfl | (simp; done) | (simp [*]; done) | (rw [Int.tmod_eq_emod_of_nonneg (Int.natCast_nonneg _)]; done)), H', ⟨by first | omega | exact Nat.le_refl _⟩, ⟨zB BK182.out⟩, ⟨zB BK183.out⟩, ⟨zS HB.out⟩⟩
 case rest =>
  clear HC3
  try clear p2
  try clear c3
  try clear c5
  try clear c7
  try clear c9
  try clear hcz10_0
  try clear hcz10_1
  try clear hfz10_0
  try clear hfz10_1
  obtain ⟨kq, x13_2, rfl, HA, HJ2, BK182, BK183, HB⟩ := hcut
  cases kq with
  | zero => exact absurd HA.out (by simp [impl_WordPower.j0])
  | succ kj2 =>
   have H := HA.out; clear HA; simp only [impl_WordPower.j0] at H
   by_cases c12 : x13_2 = true
   ·subst c12
    have H1 : (some (([] : List Int), ([] : List Int), false)) = some (r1, r2, r3) := by rw [if_pos rfl] at H; exact H
    clear H; have H := H1; clear H1; simp only [Option.some.injEq, Prod.mk.injEq] at H; obtain ⟨rfl, rfl, rfl⟩ := H; have hnb13 := NB183_182.out; have hnc13 := NB182_183.out; have hcz14_0 : wc.cell? ⟨gb183, 0, none⟩ = some (.slice none 0 0) := b1 BK183 0; have hcz14_1 : wc.cell? ⟨gb183, 1, none⟩ = some (.slice none 0 0) := b1 BK183 1; have hfz14_0 := blk_frozen BK183.out 0; have hfz14_1 := blk_frozen BK183.out 1
    go_wp2
    refine bodyPost_ret (results_ct rfl _ _ gb183 27 #[.slice none 0 0, .slice none 0 0] (0, 0) _ rfl (by (with_reducible repeat (first | refine blk_drewN ?_ _ | refine blk_drew ?_ | refine blk_alloc ?_ _)); refine blk_put (cs := #[.slice none 0 0, .slice none 0 0]) ?_ 1 _ rfl; (with_reducible repeat (first | refine blk_drewN ?_ _ | refine blk_drew ?_ | refine blk_alloc ?_ _)); refine blk_put (cs := #[.slice none 0 0, .slice none 0 0]) ?_ 0 _ rfl; (with_reducible repeat (first | refine blk_drewN ?_ _ | refine blk_drew ?_ | refine blk_alloc ?_ _)); exact BK183.out) Try.underlying27 rfl (by kernel_rfl)) rfl ?_; exact ⟨_, _, by first | rfl | (simp [errW_none, errW_some] <;> rfl) | (simp [*, errW_none, errW_some] <;> rfl), by first | exact Kd.R_nil _ _ _ _ _ | exact Kd.N_nil _ _ _ _ _ | exact Kd.V_nil _ _ _ _ _ | exact Kd.Q_nil _ _ _ _ _ | exact Kd.S_nil _ _ _ _ _, by first | exact Kd.R_nil _ _ _ _ _ | exact Kd.N_nil _ _ _ _ _ | exact Kd.V_nil _ _ _ _ _ | exact Kd.Q_nil _ _ _ _ _ | exact Kd.S_nil _ _ _ _ _, by repeat (first | (with_reducible first | exact HB.out | apply below_alloc | apply pw_below_drewN | apply below_drew1 | refine below_set ?_ GE182.out | refine below_set ?_ GE183.out) | exact HB.out)⟩
   ·replace c12 := Bool.eq_false_iff.mpr c12; subst c12
    have H1 : ((slices_Clone_int_int.f l0_0).bind fun t186 => ((slices_Repeat_int_int.f l0_1 a1).bind fun t189 => ((impl_rightOr.f kj2 t186 t189 true).bind fun bt192 => (some (bt192.1, bt192.2.1, bt192.2.2))))) = some (r1, r2, r3) := by rw [if_neg (show ¬ (false = true) by decide)] at H; exact H
    clear H; have H := H1; clear H1; replace H := Option.bind_eq_some_iff.mp H; obtain ⟨t186, A150, H⟩ := H; replace H : ((slices_Repeat_int_int.f l0_1 a1).bind fun t189 => ((impl_rightOr.f kj2 t186 t189 true).bind fun bt192 => (some (bt192.1, bt192.2.1, bt192.2.2)))) = some (r1, r2, r3) := H; have A15 := Aside0.mk A150; clear A150; replace H := Option.bind_eq_some_iff.mp H; obtain ⟨t189, A160, H⟩ := H; replace H : ((impl_rightOr.f kj2 t186 t189 true).bind fun bt192 => (some (bt192.1, bt192.2.1, bt192.2.2))) = some (r1, r2, r3) := H; have A16 := Aside0.mk A160; clear A160; replace H := Option.bind_eq_some_iff.mp H; obtain ⟨⟨t192, t195, t198⟩, A170, H⟩ := H; replace H : (some (t192, t195, t198)) = some (r1, r2, r3) := H; have A17 := Aside0.mk A170; clear A170; simp only [Option.some.injEq, Prod.mk.injEq] at H; obtain ⟨rfl, rfl, rfl⟩ := H
    try go_wp2
    replace BK182 := Aside0.mk (blk_drew BK182.out); replace BK183 := Aside0.mk (blk_drew BK183.out); replace HB := Aside0.mk (below_drew1 HB.out); refine start_ (n := 13) (S := fun w' => w'.cell? ⟨gb182, 0, none⟩ = some (.slice A0_0 l0_0.length c0_0) ∧ w'.cell? ⟨gb182, 1, none⟩ = some (.slice A0_1 l0_1.length c0_1)) (ds := []) bl0 (by kernel_rfl) rfl rfl ⟨b1 BK182 0, b1 BK182 1⟩ (fun hHeld => ?_); refine with_tabW impl_WordPower.tab3 impl_WordPower.bits3 (fun HT_ HW_ => ?_); generalize wc.drew = w18 at BK182 BK183 HB hHeld ⊢
    refine pu 0 (some 15) bl1 HT_ ?_ rfl rfl (.inl ⟨by rfl, ?_⟩) ?_ ?_ ?_; rotate_left; (intro w'; go_simp; with_reducible rfl); rotate_left; (simp only [Act.put, q5]; rfl)
    refine pu 3 (some 18) bl2 HT_ ?_ rfl rfl (.inl ⟨by rfl, ?_⟩) ?_ ?_ ?_; rotate_left; (intro w'; go_simp; with_reducible rfl); rotate_left; (simp only [Act.put, q5]; rfl)
    refine pu 5 (some 20) bl3 HT_ ?_ rfl rfl (.inl ⟨by rfl, ?_⟩) ?_ ?_ ?_; rotate_left; (intro w'; go_simp; with_reducible rfl); rotate_left; (simp only [Act.put, q5]; rfl)
    refine take_ (i := 1) (N := some 16) (v := ?_) (a' := ?_) bl4 rfl rfl (take_ofW HT_.out HW_.out (by kernel_rfl)) (fun _ _ _ h => h) (Or.inl ⟨by rfl, ?_⟩) hHeld ?_ ?_; rotate_left
    ·rintro w' ⟨s0, s1⟩; go_simp; with_reducible rfl
    rotate_left
    ·simp only [Act.put, q5]; rfl
    refine take_ (i := 4) (N := some 19) (v := ?_) (a' := ?_) bl5 rfl rfl (take_ofW HT_.out HW_.out (by kernel_rfl)) (fun _ _ _ h => h) (Or.inl ⟨by rfl, ?_⟩) hHeld ?_ ?_; rotate_left
    ·rintro w' ⟨s0, s1⟩; go_simp; with_reducible rfl
    rotate_left
    ·simp only [Act.put, q5]; rfl
    refine one_ (i := 2) (N := some 17) bl6 rfl rfl (one_of HT_.out (by kernel_rfl)) (by decide) (fun K hK => ?_); refine goes_ Try.func62 (by kernel_rfl) rfl #[.slice A0_0 l0_0.length c0_0] (by rfl) rfl rfl (by (try simp only [m3]); first | done | rfl | (simp only [d2]; rfl)) ?_
    with_reducible refine (slices_Clone_int_int.calls _ _ l0_0 t186 _ ?side1 ?side2 A15.out).mono ?_
    (case side1 => exact zC (Kd.C_below HR0_0.out HB.out))
    (case side2 => exact HC0_0.out)
    rintro e w19 ⟨v187, rfl, ho0, hb⟩; refine ⟨_, rfl, ?_⟩; have HO188 := Aside0.mk (Kd.R_lower ho0 (below_size (zS HB.out))); replace BK182 := xB BK182 hb; replace BK183 := xB BK183 hb; replace HB := xS HB hb
    (try clear hb)
    (try clear hb2)
    (try clear hk)
    (try clear hi)
    (try clear ho0)
    refine hK.out _ _ ⟨b1 BK182 0, b1 BK182 1⟩ (fun hHeld => ?_); clear hK K; refine norm_ (a' := ?_) ?_ ?_; rotate_left
    ·show Act.put _ (some 17) _ = _; simp only [Act.put, q5]; rfl
    refine one_ (i := 6) (N := some 21) bl7 rfl rfl (one_of HT_.out (by kernel_rfl)) (by decide) (fun K hK => ?_); refine goes_ Try.func66 (by kernel_rfl) rfl #[.slice A0_1 l0_1.length c0_1, .int .i64 a1] (by rfl) rfl rfl (by (try simp only [m3]); first | done | rfl | (simp only [d2]; rfl)) ?_
    with_reducible refine (slices_Repeat_int_int.calls _ _ l0_1 a1 t189 _ ?side1 ?side2 A16.out).mono ?_
    (case side1 => exact zC (Kd.C_below HR0_1.out HB.out))
    (case side2 => exact HC0_1.out)
    rintro e w20 ⟨v190, rfl, ho0, hb⟩; refine ⟨_, rfl, ?_⟩; have HO191 := Aside0.mk (Kd.R_lower (Kd.R_new' ho0 (Kd.R_lt (zR HO188.out))) (below_size (zS HB.out))); replace HO188 := xE HO188 ho0 hb; replace BK182 := xB BK182 hb; replace BK183 := xB BK183 hb; replace HB := xS HB hb
    (try clear hb)
    (try clear hb2)
    (try clear hk)
    (try clear hi)
    (try clear ho0)
    obtain ⟨Ao21, co21, eo21⟩ := Kd.R_slice HO191.out
    (first | subst eo21 | (injection eo21 with f1_ f2_ f3_; have f4_ := f1_.symm; have f5_ := f3_.symm; clear f1_ f2_ f3_; subst f4_; subst f5_))
    obtain ⟨Ao22, co22, eo22⟩ := Kd.R_slice HO188.out
    (first | subst eo22 | (injection eo22 with f1_ f2_ f3_; have f4_ := f1_.symm; have f5_ := f3_.symm; clear f1_ f2_ f3_; subst f4_; subst f5_))
    refine hK.out _ _ ⟨b1 BK182 0, b1 BK182 1⟩ (fun hHeld => ?_); clear hK K; refine norm_ (a' := ?_) ?_ ?_; rotate_left
    ·show Act.put _ (some 21) _ = _; simp only [Act.put, q5]; rfl
    refine pu 7 (some 22) bl8 HT_ ?_ rfl rfl (.inl ⟨by rfl, ?_⟩) ?_ ?_ ?_; rotate_left; (intro w'; go_simp; with_reducible rfl); rotate_left; (simp only [Act.put, q5]; rfl)
    refine one_ (i := 8) (N := some 23) bl9 rfl rfl (one_of HT_.out (by kernel_rfl)) (by decide) (fun K hK => ?_); refine goes_ Try.func60 (by kernel_rfl) rfl #[.agg #[.slice Ao22 t186.length co22, .slice Ao21 t189.length co21], .bool true] (by rfl) rfl rfl (by (try simp only [m3]); first | done | rfl | (simp only [d2]; rfl)) ?_
    with_reducible refine (impl_rightOr.calls kj2 (fun k_ => some k_ = (.slice Ao22 t186.length co22 : Value).ownBlock) (.slice Ao22 t186.length co22) t186 (fun k_ => some k_ = (.slice Ao21 t189.length co21 : Value).ownBlock) (.slice Ao21 t189.length co21) t189 true t192 t195 t198 w _ ?side1 ?side2 ?side3 ?side4 ?side5 A17.out).mono ?_
    (case side1 => repeat (first | (with_reducible first | exact HB.out | apply below_alloc | apply pw_below_drewN | apply below_drew1 | refine below_set ?_ GE182.out | refine below_set ?_ GE183.out) | exact HB.out))
    (case side2 => exact Kd.R_tight rfl HO188.out)
    (case side3 => exact fun k_ e_ => (HO188.out.1 k_ e_.symm).2)
    (case side4 => exact Kd.R_tight rfl HO191.out)
    (case side5 => exact fun k_ e_ => (HO191.out.1 k_ e_.symm).2)
    rintro e w23 ⟨v193, v196, rfl, ho0, ho1, hb, hkp⟩; refine ⟨_, rfl, ?_⟩; have n0_ := Aside0.mk (blk_kept (zB BK182.out) hkp (fun hs_ => Or.elim hs_ (fun e_ => (fun e_ => (Kd.R_ne HO188.out BK182.out (by decide)) e_) e_) (fun e_ => (fun e_ => (Kd.R_ne HO191.out BK182.out (by decide)) e_) e_))); have n1_ := Aside0.mk (blk_kept (zB BK183.out) hkp (fun hs_ => Or.elim hs_ (fun e_ => (fun e_ => (Kd.R_ne HO188.out BK183.out (by decide)) e_) e_) (fun e_ => (fun e_ => (Kd.R_ne HO191.out BK183.out (by decide)) e_) e_))); have n2_ := Aside0.mk (Kd.R_mono (ok' := fun k_ => some k_ ≠ (v196 : Value).ownBlock) ho0 (fun k_ hk_ => hk_.2)); have n3_ := Aside0.mk (Kd.R_mono (ok' := fun k_ => some k_ ≠ (v193 : Value).ownBlock) ho1 (fun k_ hk_ => hk_.2)); have n4_ := Aside0.mk (hb); clear BK182; clear BK183; clear HB; clear HO188; clear HO191; have BK182 := n0_; have BK183 := n1_; have HO194 := n2_; have HO197 := n3_; have HB := n4_; clear n0_ n1_ n2_ n3_ n4_
    (try clear hb)
    (try clear hkp)
    (try clear ho0)
    (try clear ho1)
    obtain ⟨Ao24, co24, eo24⟩ := Kd.R_slice HO194.out
    (first | subst eo24 | (injection eo24 with f1_ f2_ f3_; have f4_ := f1_.symm; have f5_ := f3_.symm; clear f1_ f2_ f3_; subst f4_; subst f5_))
    obtain ⟨Ao26, co26, eo26⟩ := Kd.R_slice HO197.out
    (first | subst eo26 | (injection eo26 with f1_ f2_ f3_; have f4_ := f1_.symm; have f5_ := f3_.symm; clear f1_ f2_ f3_; subst f4_; subst f5_))
    refine hK.out _ _ ⟨b1 BK182 0, b1 BK182 1⟩ (fun hHeld => ?_); clear hK K; refine norm_ (a' := ?_) ?_ ?_; rotate_left
    ·show Act.put _ (some 23) _ = _; simp only [Act.put, q5]; rfl
    refine pu 9 (some 24) bl10 HT_ ?_ rfl rfl (.inl ⟨by rfl, ?_⟩) ?_ ?_ ?_; rotate_left; (intro w'; go_simp; with_reducible rfl); rotate_left; (simp only [Act.put, q5]; rfl)
    refine pu 10 (some 25) bl11 HT_ ?_ rfl rfl (.inl ⟨by rfl, ?_⟩) ?_ ?_ ?_; rotate_left; (intro w'; go_simp; with_reducible rfl); rotate_left; (simp only [Act.put, q5]; rfl)
    refine one_ (i := 11) (N := none) bl12 rfl rfl (one_of HT_.out (by kernel_rfl)) (by decide) (fun K hK => ?_); have hs25 : w23.cell? ⟨gb183, 0, none⟩ = some (.slice none 0 0) := b1 BK183 0; have hfs25 := blk_frozen BK183.out 0; have hns25_0 := NB182_183.out; have hms25_0 := NB183_182.out; have hs27 : w23.cell? ⟨gb183, 1, none⟩ = some (.slice none 0 0) := b1 BK183 1; have hfs27 := blk_frozen BK183.out 1; have hns27_0 := NB182_183.out; have hms27_0 := NB183_182.out; refine skip_ (w1 := ?_) (by rfl) rfl ?_ ?_; rotate_left
    ·go_simp; rfl
    refine hK.out _ _ ⟨((cell_far (p := ⟨gb183, _, none⟩) NB182_183.out _).trans (((cell_far (p := ⟨gb183, _, none⟩) NB182_183.out _).trans (hHeld.1)))), ((cell_far (p := ⟨gb183, _, none⟩) NB182_183.out _).trans (((cell_far (p := ⟨gb183, _, none⟩) NB182_183.out _).trans (hHeld.2))))⟩ (fun hHeld => ?_); clear hK K
    refine pu 12 (some 5) bl13 HT_ ?_ rfl rfl (.inl ⟨by rfl, ?_⟩) ?_ ?_ ?_; rotate_left; (intro w'; go_simp; with_reducible rfl); rotate_left; (simp only [Act.put, q5]; rfl)
    refine done_ (done_of HT_.out (by kernel_rfl)) ?_
    try go_wp2
    refine bodyPost_ret (results_ct rfl _ _ gb183 27 #[.slice Ao24 t192.length co24, .slice Ao26 t195.length co26] (0, 0) _ rfl (by (with_reducible repeat (first | refine blk_drewN ?_ _ | refine blk_drew ?_ | refine blk_alloc ?_ _)); refine blk_put (cs := #[.slice Ao24 t192.length co24, .slice none 0 0]) ?_ 1 _ rfl; (with_reducible repeat (first | refine blk_drewN ?_ _ | refine blk_drew ?_ | refine blk_alloc ?_ _)); refine blk_put (cs := #[.slice none 0 0, .slice none 0 0]) ?_ 0 _ rfl; (with_reducible repeat (first | refine blk_drewN ?_ _ | refine blk_drew ?_ | refine blk_alloc ?_ _)); exact BK183.out) Try.underlying27 rfl (by kernel_rfl)) rfl ?_; exact ⟨_, _, by first | rfl | (simp [errW_none, errW_some] <;> rfl) | (simp [*, errW_none, errW_some] <;> rfl), by (with_reducible repeat (first | apply Kd.R_alloc | apply Kd.R_drewN | apply Kd.R_drew)); exact Kd.R_mono (Kd.R_far (p := ⟨gb183, 1, none⟩) (Kd.R_far (p := ⟨gb183, 0, none⟩) (Kd.R_types HO194.out BK183.out (by decide)) (fun _ hk => hk.2) (.slice Ao24 t192.length co24)) (fun _ hk => hk.2) (.slice Ao26 t195.length co26)) (fun _ hk => hk.1), by (with_reducible repeat (first | apply Kd.R_alloc | apply Kd.R_drewN | apply Kd.R_drew)); exact Kd.R_mono (Kd.R_far (p := ⟨gb183, 1, none⟩) (Kd.R_far (p := ⟨gb183, 0, none⟩) (Kd.R_types HO197.out BK183.out (by decide)) (fun _ hk => hk.2) (.slice Ao24 t192.length co24)) (fun _ hk => hk.2) (.slice Ao26 t195.length co26)) (fun _ hk => hk.1), by repeat (first | (with_reducible first | exact HB.out | apply below_alloc | apply pw_below_drewN | apply below_drew1 | refine below_set ?_ GE182.out | refine below_set ?_ GE183.out) | exact HB.out)⟩

end Go.Proofs.Ythkljpbddddhdaa.MFnExactWordPower
