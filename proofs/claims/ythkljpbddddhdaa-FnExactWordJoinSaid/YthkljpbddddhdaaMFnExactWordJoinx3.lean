-- Written by a program of this session, out of Lean's print of the translation. Not trusted: Lean checks it.
import Derived.Test.YthkljpbddddhdaaMFnExactWordJoinx0
import Derived.Test.YthkljpbddddhdaaMFnExactWordJoinx2
namespace Go.Proofs.Ythkljpbddddhdaa.MFnExactWordJoin
open Go.RowKit Go.Proofs.YthkljpbddddhdaaW.PrintWords Go.Proofs.YthkljpbddddhdaaW.PrintLast Go.Proofs.YthkljpbddddhdaaW.PrintMore
attribute [local go_sem] max2_int min2_int max_two min_two max_three min_three max_four min_four   -- for this text's walks alone
set_option linter.unusedVariables false
set_option linter.unusedSimpArgs false

section
open Go.Proofs.Ythkljpbddddhdaa.Short2.T
abbrev impl_WordJoin.bl0 : Array Bool := #[f, f, f, f, f, f, f, f, f, f, f, f, f, f, f, f]
abbrev impl_WordJoin.bl1 : Array Bool := #[t, f, f, f, f, f, f, f, f, f, f, f, f, f, f, f]
abbrev impl_WordJoin.bl2 : Array Bool := #[t, t, f, f, f, f, f, f, f, f, f, f, f, f, f, f]
abbrev impl_WordJoin.bl3 : Array Bool := #[t, t, f, f, f, t, f, f, f, f, f, f, f, f, f, f]
abbrev impl_WordJoin.bl4 : Array Bool := #[t, t, t, f, f, t, f, f, f, f, f, f, f, f, f, f]
abbrev impl_WordJoin.bl5 : Array Bool := #[t, t, t, f, f, t, t, f, f, f, f, f, f, f, f, f]
abbrev impl_WordJoin.bl6 : Array Bool := #[t, t, t, f, f, t, t, f, f, t, f, f, f, f, f, f]
abbrev impl_WordJoin.bl7 : Array Bool := #[t, t, t, t, f, t, t, f, f, t, f, f, f, f, f, f]
abbrev impl_WordJoin.bl8 : Array Bool := #[t, t, t, t, t, t, t, f, f, t, f, f, f, f, f, f]
abbrev impl_WordJoin.bl9 : Array Bool := #[t, t, t, t, t, t, t, t, f, t, f, f, f, f, f, f]
abbrev impl_WordJoin.bl10 : Array Bool := #[t, t, t, t, t, t, t, t, t, t, f, f, f, f, f, f]
abbrev impl_WordJoin.bl11 : Array Bool := #[t, t, t, t, t, t, t, t, t, t, t, f, f, f, f, f]
abbrev impl_WordJoin.bl12 : Array Bool := #[t, t, t, t, t, t, t, t, t, t, t, t, f, f, f, f]
abbrev impl_WordJoin.bl13 : Array Bool := #[t, t, t, t, t, t, t, t, t, t, t, t, t, f, f, f]
abbrev impl_WordJoin.bl14 : Array Bool := #[t, t, t, t, t, t, t, t, t, t, t, t, t, t, f, f]
abbrev impl_WordJoin.bl15 : Array Bool := #[t, t, t, t, t, t, t, t, t, t, t, t, t, t, t, f]
abbrev impl_WordJoin.bl16 : Array Bool := #[t, t, t, t, t, t, t, t, t, t, t, t, t, t, t, t]
end
/-! ### impl_WordJoin: function 33 -/
def impl_WordJoin.f (k : Nat) (l0 : List Int) (l1_0 : List Int) (l1_1 : List Int) : Option (List Int × List Int × Bool) := (slices_Concat_int_int.f k (([l0, l1_0] : List (List Int)))).bind fun t197 => ((slices_Clone_int_int.f l1_1).bind fun t200 => ((impl_isRight.f k l1_0 l1_1).bind fun t203 => ((impl_rightOr.f k t197 t200 t203).bind fun bt204 => (some (bt204.1, bt204.2.1, bt204.2.2)))))
theorem impl_WordJoin.mono : ∀ a0 a1 a2 k, LeO (impl_WordJoin.f k a0 a1 a2) (impl_WordJoin.f (k + 1) a0 a1 a2) := by
 intro a0 a1 a2 k
 unfold impl_WordJoin.f
 repeat' first
   | (with_reducible exact impl_isRight.mono _ _ _)
   | (with_reducible exact impl_rightOr.mono _ _ _ _)
   | (with_reducible exact slices_Concat_int_int.mono _ _)
   | (with_reducible exact LeO.refl _)
   | (with_reducible exact LeO.none _)
   | (with_reducible refine LeO.ite ?_ ?_)
   | (with_reducible refine LeO.bind ?_ (fun _ => ?_))
   | exact impl_isRight.mono _ _ _
   | exact impl_rightOr.mono _ _ _ _
   | exact slices_Concat_int_int.mono _ _
   | exact LeO.none _
   | refine LeO.ite ?_ ?_
   | refine LeO.bind ?_ (fun _ => ?_)
def impl_WordJoin.T1 : Bool × List (List Nat × List Nat) := (true, [([], []), ([], []), ([1], [1]), ([0, 2], [0, 2]), ([3], [3]), ([], []), ([5], [5]), ([6, 4], [6]), ([4, 7], [4, 7]), ([], []), ([9, 7], [9]), ([8, 10, 10], [8, 10]), ([11], [11]), ([11], [11]), ([12, 11, 0, 1, 2, 3, 4, 5, 6, 7, 8, 9, 10, 11, 12, 13], [12]), ([13, 14, 0, 1, 2, 3, 4, 5, 6, 7, 8, 9, 10, 11, 12, 13, 14], [13])])
def impl_WordJoin.B1 : List Nat := [0, 0, 2, 7, 15, 0, 32, 127, 255, 0, 767, 2047, 4095, 4095, 16383, 32767]
theorem impl_WordJoin.tab1 : rtab .any (opsOf Try.f33 1) = impl_WordJoin.T1 := by kernel_rfl
theorem impl_WordJoin.bits1 : waitsOk impl_WordJoin.T1.2 impl_WordJoin.B1 = true := by kernel_rfl
open Go.Proofs.Ythkljpbddddhdaa.Short2 in
set_option maxHeartbeats 8000000 in
set_option maxRecDepth 100000 in
theorem impl_WordJoin.calls (k : Nat) (P0_ : Nat → Prop) (A0 : Option Addr) (c0 : Nat) (l0 : List Int) (P1_0_ : Nat → Prop) (A1_0 : Option Addr) (c1_0 : Nat) (l1_0 : List Int) (A1_1 : Option Addr) (c1_1 : Nat) (l1_1 : List Int) (r1 : List Int) (r2 : List Int) (r3 : Bool) (w : World) (hs0 : Kd.V (Kd.int .i64) 3 w w.heap.size (fun k_ => P0_ k_) (.slice A0 l0.length c0) l0) (hs1_0 : Kd.V (Kd.int .i64) 3 w w.heap.size (fun k_ => P1_0_ k_) (.slice A1_0 l1_0.length c1_0) l1_0) (hr1_1 : Kd.C (Kd.int .i64) w A1_1 l1_1.length l1_1) (hc1_1 : l1_1.length ≤ c1_1) (h : impl_WordJoin.f k l0 l1_0 l1_1 = some (r1, r2, r3)) :
  Calls Try.prog 33 #[.slice A0 l0.length c0, .agg #[.slice A1_0 l1_0.length c1_0, .slice A1_1 l1_1.length c1_1]] w fun e w' => ∃ v0_ v1_ : Value, e = .returned (.tuple #[.agg #[v0_, v1_], .bool r3]) ∧ Kd.R (Kd.int .i64) 3 w' w.heap.size (fun k_ => (w.heap.size ≤ k_) ∧ some k_ ≠ (v1_ : Value).ownBlock) v0_ r1 ∧ Kd.R (Kd.int .i64) 3 w' w.heap.size (fun k_ => (w.heap.size ≤ k_) ∧ some k_ ≠ (v0_ : Value).ownBlock) v1_ r2 ∧ Below w.heap.size w w' := by
 have hu27 := Try.underlying27; have HO0 := Aside0.mk (show Kd.V (Kd.int .i64) 3 w w.heap.size (fun k_ => ((P0_ k_ ∨ P1_0_ k_) ∨ w.heap.size ≤ k_)) (.slice A0 l0.length c0) l0 from Kd.V_mono hs0 (fun k_ hk => .inl (.inl hk))); have HO1_0 := Aside0.mk (show Kd.V (Kd.int .i64) 3 w w.heap.size (fun k_ => ((P0_ k_ ∨ P1_0_ k_) ∨ w.heap.size ≤ k_)) (.slice A1_0 l1_0.length c1_0) l1_0 from Kd.V_mono hs1_0 (fun k_ hk => .inl (.inr hk))); have HR1_1 := Aside0.mk hr1_1; have HC1_1 := Aside0.mk hc1_1; clear hr1_1 hc1_1; have HB := Aside0.mk (Below.refl w.heap.size w); have H : ((slices_Concat_int_int.f k (([l0, l1_0] : List (List Int)))).bind fun t197 => ((slices_Clone_int_int.f l1_1).bind fun t200 => ((impl_isRight.f k l1_0 l1_1).bind fun t203 => ((impl_rightOr.f k t197 t200 t203).bind fun bt204 => (some (bt204.1, bt204.2.1, bt204.2.2)))))) = some (r1, r2, r3) := h; clear h; obtain ⟨y194, hy194⟩ : ∃ y_ : List (List Int), y_ = (([l0, l1_0] : List (List Int))) := ⟨_, rfl⟩
 replace H : ((slices_Concat_int_int.f k y194).bind fun t197 => ((slices_Clone_int_int.f l1_1).bind fun t200 => ((impl_isRight.f k l1_0 l1_1).bind fun t203 => ((impl_rightOr.f k t197 t200 t203).bind fun bt204 => (some (bt204.1, bt204.2.1, bt204.2.2)))))) = some (r1, r2, r3) := by first | (rw [hy194]; with_reducible exact H) | (have H2_ := (Option.bind_some _ _).symm.trans H; rw [hy194]; with_reducible exact H2_) | (have H2_ := (Option.bind_some _ _).symm.trans H; with_reducible exact H2_) | with_reducible exact H | (rw [hy194]; exact H) | exact H
 have Ny194 := Aside0.mk hy194; clear hy194; replace H := Option.bind_eq_some_iff.mp H; obtain ⟨t197, A30, H⟩ := H; replace H : ((slices_Clone_int_int.f l1_1).bind fun t200 => ((impl_isRight.f k l1_0 l1_1).bind fun t203 => ((impl_rightOr.f k t197 t200 t203).bind fun bt204 => (some (bt204.1, bt204.2.1, bt204.2.2))))) = some (r1, r2, r3) := H; have A3 := Aside0.mk A30; clear A30; replace H := Option.bind_eq_some_iff.mp H; obtain ⟨t200, A40, H⟩ := H; replace H : ((impl_isRight.f k l1_0 l1_1).bind fun t203 => ((impl_rightOr.f k t197 t200 t203).bind fun bt204 => (some (bt204.1, bt204.2.1, bt204.2.2)))) = some (r1, r2, r3) := H; have A4 := Aside0.mk A40; clear A40; replace H := Option.bind_eq_some_iff.mp H; obtain ⟨t203, A50, H⟩ := H; replace H : ((impl_rightOr.f k t197 t200 t203).bind fun bt204 => (some (bt204.1, bt204.2.1, bt204.2.2))) = some (r1, r2, r3) := H; have A5 := Aside0.mk A50; clear A50; replace H := Option.bind_eq_some_iff.mp H; obtain ⟨⟨t204, t207, t210⟩, A60, H⟩ := H; replace H : (some (t204, t207, t210)) = some (r1, r2, r3) := H; have A6 := Aside0.mk A60; clear A60; simp only [Option.some.injEq, Prod.mk.injEq] at H; obtain ⟨rfl, rfl, rfl⟩ := H
 go_enter Try.func33, Try.ntmps33
 try go_wp2_with (first | ((with_reducible refine gate_dst (N := 3) rfl ?_); refine box_event ?hg (N := 3) ?hd (cs := #[.slice A1_0 l1_0.length c1_0, .slice A1_1 l1_1.length c1_1]) (t := 27) ?hr ?_; (case hd => rfl); (case hg => rfl); (case hr => first | (go_simp; done) | (go_simp; rfl)); intro gb192 hg w7 hbox hb; replace HO0 := Aside0.mk (Kd.V_below (Kd.V_elderB (by (with_reducible repeat (first | apply Kd.V_alloc | apply Kd.V_drewN | apply Kd.V_drew)); exact HO0.out) gb192 (Nat.le_of_eq hg.symm)) hb); replace HO1_0 := Aside0.mk (Kd.V_below (Kd.V_elderB (by (with_reducible repeat (first | apply Kd.V_alloc | apply Kd.V_drewN | apply Kd.V_drew)); exact HO1_0.out) gb192 (Nat.le_of_eq hg.symm)) hb); have BK192 := Aside0.mk (hbox); have GW192 := xG HB hg; have GE192 := xG HB hg; replace HB := xS HB hb; clear hb hbox hg) | ((with_reducible refine gate_dst (N := 4) rfl ?_); refine box_event ?hg (N := 4) ?hd (cs := #[.slice none 0 0, .slice none 0 0]) (t := 27) ?hr ?_; (case hd => rfl); (case hg => rfl); (case hr => first | (go_simp; done) | (go_simp; rfl)); intro gb193 hg w8 hbox hb; replace HO0 := Aside0.mk (Kd.V_below (Kd.V_elderB (by (with_reducible repeat (first | apply Kd.V_alloc | apply Kd.V_drewN | apply Kd.V_drew)); exact HO0.out) gb193 (Nat.le_of_eq hg.symm)) hb); replace HO1_0 := Aside0.mk (Kd.V_below (Kd.V_elderB (by (with_reducible repeat (first | apply Kd.V_alloc | apply Kd.V_drewN | apply Kd.V_drew)); exact HO1_0.out) gb193 (Nat.le_of_eq hg.symm)) hb); have BK193 := Aside0.mk (hbox); have GW193 := xG HB hg; have GE193 := xG HB hg; replace HB := xS HB hb; have NB192_193 := xN BK192 hg; have NB193_192 := xM BK192 hg; replace BK192 := xB BK192 hb; clear hb hbox hg))
 replace HO0 := Aside0.mk (Kd.V_drew HO0.out); replace HO1_0 := Aside0.mk (Kd.V_drew HO1_0.out); replace BK192 := Aside0.mk (blk_drew BK192.out); replace BK193 := Aside0.mk (blk_drew BK193.out); replace HB := Aside0.mk (below_drew1 HB.out); refine start_ (n := 16) (S := fun w' => w'.cell? ⟨gb192, 0, none⟩ = some (.slice A1_0 l1_0.length c1_0) ∧ w'.cell? ⟨gb192, 1, none⟩ = some (.slice A1_1 l1_1.length c1_1)) (ds := []) bl0 (by kernel_rfl) rfl rfl ⟨b1 BK192 0, b1 BK192 1⟩ (fun hHeld => ?_); refine with_tabW impl_WordJoin.tab1 impl_WordJoin.bits1 (fun HT_ HW_ => ?_); generalize w8.drew = w9 at HO0 HO1_0 BK192 BK193 HB hHeld ⊢
 refine pu 0 (some 6) bl1 HT_ ?_ rfl rfl (.inl ⟨by rfl, ?_⟩) ?_ ?_ ?_; rotate_left; (intro w'; go_simp; with_reducible rfl); rotate_left; (simp only [Act.put, q5]; rfl)
 refine pu 1 (some 7) bl2 HT_ ?_ rfl rfl (.inl ⟨by rfl, ?_⟩) ?_ ?_ ?_; rotate_left; (intro w'; go_simp; with_reducible rfl); rotate_left; (simp only [Act.put, q5]; rfl)
 refine pu 5 (some 11) bl3 HT_ ?_ rfl rfl (.inl ⟨by rfl, ?_⟩) ?_ ?_ ?_; rotate_left; (intro w'; go_simp; with_reducible rfl); rotate_left; (simp only [Act.put, q5]; rfl)
 refine take_ (i := 2) (N := some 8) (v := ?_) (a' := ?_) bl4 rfl rfl (take_ofW HT_.out HW_.out (by kernel_rfl)) (fun _ _ _ h => h) (Or.inl ⟨by rfl, ?_⟩) hHeld ?_ ?_; rotate_left
 ·rintro w' ⟨s0, s1⟩; go_simp; with_reducible rfl
 rotate_left
 ·simp only [Act.put, q5]; rfl
 refine take_ (i := 6) (N := some 12) (v := ?_) (a' := ?_) bl5 rfl rfl (take_ofW HT_.out HW_.out (by kernel_rfl)) (fun _ _ _ h => h) (Or.inl ⟨by rfl, ?_⟩) hHeld ?_ ?_; rotate_left
 ·rintro w' ⟨s0, s1⟩; go_simp; with_reducible rfl
 rotate_left
 ·simp only [Act.put, q5]; rfl
 refine take_ (i := 9) (N := some 15) (v := ?_) (a' := ?_) bl6 rfl rfl (take_ofW HT_.out HW_.out (by kernel_rfl)) (fun _ _ _ h => h) (Or.inl ⟨by rfl, ?_⟩) hHeld ?_ ?_; rotate_left
 ·rintro w' ⟨s0, s1⟩; go_simp; with_reducible rfl
 rotate_left
 ·simp only [Act.put, q5]; rfl
 refine one_ (i := 3) (N := some 9) bl7 rfl rfl (one_of HT_.out (by kernel_rfl)) (by decide) (fun K hK => ?_)
 refine Kd.N_lit_step (Kd.slice 3 (Kd.int .i64)) _ 22 ?hg (N' := 9) ?hd (xs := ([l0, l1_0] : List (List Int))) (inner := [.slice A0 l0.length c0, .slice A1_0 l1_0.length c1_0]) (ok := (fun k_ => ((P0_ k_ ∨ P1_0_ k_) ∨ w.heap.size ≤ k_) ∧ k_ ≠ gb192 ∧ k_ ≠ gb193)) (okp := (fun k_ => ((P0_ k_ ∨ P1_0_ k_) ∨ w.heap.size ≤ k_) ∧ k_ ≠ gb192 ∧ k_ ≠ gb193)) ?hr ?hp (fun _ hk => hk) ((show ∀ k_, w9.heap.size ≤ k_ → (fun k_ => ((P0_ k_ ∨ P1_0_ k_) ∨ w.heap.size ≤ k_) ∧ k_ ≠ gb192 ∧ k_ ≠ gb193) k_ from fun k_ hk => ⟨(.inr (Nat.le_trans (below_size (zS HB.out)) hk)), Kd.freshB (g := gb192) (o := .cells #[.slice A1_0 l1_0.length c1_0, .slice A1_1 l1_1.length c1_1] 27 (0, 0)) (zB BK192.out) k_ hk, Kd.freshB (g := gb193) (o := .cells #[.slice none 0 0, .slice none 0 0] 27 (0, 0)) (zB BK193.out) k_ hk⟩) _ (Nat.le_refl _)) (Below.refl _ _) (Nat.le_refl _) (by simp) ?_; (case hd => rfl); (case hg => rfl); (case hr => first | (go_simp; done) | (go_simp; rfl)); (case hp => exact (Reps.one (show Kd.FK (Kd.slice 3 (Kd.int .i64)) _ _ l0 [.slice A0 l0.length c0] from (Kd.FK_slice_mk (Kd.V_reads' (Kd.V_mono (ok' := (fun k_ => ((P0_ k_ ∨ P1_0_ k_) ∨ w.heap.size ≤ k_) ∧ k_ ≠ gb192 ∧ k_ ≠ gb193)) (HO0.out) (fun k_ hk => ⟨hk.1.1, ⟨hk.1.2, hk.2⟩⟩))).2.1 (Kd.V_F (Kd.V_mono (ok' := (fun k_ => ((P0_ k_ ∨ P1_0_ k_) ∨ w.heap.size ≤ k_) ∧ k_ ≠ gb192 ∧ k_ ≠ gb193)) (HO0.out) (fun k_ hk => ⟨hk.1.1, ⟨hk.1.2, hk.2⟩⟩))))) (Reps.one (show Kd.FK (Kd.slice 3 (Kd.int .i64)) _ _ l1_0 [.slice A1_0 l1_0.length c1_0] from (Kd.FK_slice_mk (Kd.V_reads' (Kd.V_mono (ok' := (fun k_ => ((P0_ k_ ∨ P1_0_ k_) ∨ w.heap.size ≤ k_) ∧ k_ ≠ gb192 ∧ k_ ≠ gb193)) (HO1_0.out) (fun k_ hk => ⟨hk.1.1, ⟨hk.1.2, hk.2⟩⟩))).2.1 (Kd.V_F (Kd.V_mono (ok' := (fun k_ => ((P0_ k_ ∨ P1_0_ k_) ∨ w.heap.size ≤ k_) ∧ k_ ≠ gb192 ∧ k_ ≠ gb193)) (HO1_0.out) (fun k_ hk => ⟨hk.1.1, ⟨hk.1.2, hk.2⟩⟩))))) (Reps.none _ _))))
 intro v195 w10 ho11 hb hg_ hnew_; clear hg_ hnew_
 (first | rw [← Ny194.out] at ho11 | (simp only [Int.reduceToNat] at ho11; rw [← Ny194.out] at ho11))
 replace HO0 := Aside0.mk (Kd.V_elder' (by (with_reducible repeat (first | apply Kd.V_alloc | apply Kd.V_drewN | apply Kd.V_drew)); exact HO0.out) (Kd.N_base ho11) hb); replace HO1_0 := Aside0.mk (Kd.V_elder' (by (with_reducible repeat (first | apply Kd.V_alloc | apply Kd.V_drewN | apply Kd.V_drew)); exact HO1_0.out) (Kd.N_base ho11) hb); have HO196 := Aside0.mk (Kd.N_lower ho11 (below_size (zS HB.out))); replace BK192 := xB BK192 hb; replace BK193 := xB BK193 hb; replace HB := xS HB hb; clear hb ho11; obtain ⟨Ao12, co12, eo12⟩ := Kd.N_slice HO196.out
 (first | subst eo12 | (injection eo12 with f1_ f2_ f3_; have f4_ := f1_.symm; have f5_ := f3_.symm; clear f1_ f2_ f3_; subst f4_; subst f5_))
 refine hK.out _ _ ⟨b1 BK192 0, b1 BK192 1⟩ (fun hHeld => ?_); clear hK K; refine norm_ (a' := ?_) ?_ ?_; rotate_left
 ·show Act.put _ (some 9) _ = _; simp only [Act.put, q5]; rfl
 refine one_ (i := 4) (N := some 10) bl8 rfl rfl (one_of HT_.out (by kernel_rfl)) (by decide) (fun K hK => ?_); refine goes_ Try.func61 (by kernel_rfl) rfl #[.slice Ao12 y194.length co12] (by rfl) rfl rfl (by (try simp only [m3]); first | done | rfl | (simp only [d2]; rfl)) ?_
 with_reducible refine (slices_Concat_int_int.calls k _ _ y194 t197 _ ?side1 ?side2 A3.out).mono ?_
 (case side1 => exact zC (Kd.N_reads' HO196.out).2.2)
 (case side2 => exact (Kd.N_reads' HO196.out).2.1)
 rintro e w13 ⟨v198, rfl, ho0, hb⟩; refine ⟨_, rfl, ?_⟩; replace HO0 := Aside0.mk (Kd.V_elder' (by (with_reducible repeat (first | apply Kd.V_alloc | apply Kd.V_drewN | apply Kd.V_drew)); exact HO0.out) (Kd.R_base ho0) hb); replace HO1_0 := Aside0.mk (Kd.V_elder' (by (with_reducible repeat (first | apply Kd.V_alloc | apply Kd.V_drewN | apply Kd.V_drew)); exact HO1_0.out) (Kd.R_base ho0) hb); replace HO196 := Aside0.mk (Kd.N_elder' (by (with_reducible repeat (first | apply Kd.N_alloc | apply Kd.N_drewN | apply Kd.N_drew)); exact HO196.out) (Kd.R_base ho0) hb); have HO199 := Aside0.mk (Kd.R_lower (Kd.R_newM (M := fun k_ => (w.heap.size ≤ k_)) ho0 (below_size (zS HB.out)) (fun k_ h_ => h_)) (below_size (zS HB.out))); replace BK192 := xB BK192 hb; replace BK193 := xB BK193 hb; replace HB := xS HB hb
 (try clear hb)
 (try clear hb2)
 (try clear hk)
 (try clear hi)
 (try clear ho0)
 refine hK.out _ _ ⟨b1 BK192 0, b1 BK192 1⟩ (fun hHeld => ?_); clear hK K; refine norm_ (a' := ?_) ?_ ?_; rotate_left
 ·show Act.put _ (some 10) _ = _; simp only [Act.put, q5]; rfl
 refine one_ (i := 7) (N := some 13) bl9 rfl rfl (one_of HT_.out (by kernel_rfl)) (by decide) (fun K hK => ?_); refine goes_ Try.func62 (by kernel_rfl) rfl #[.slice A1_1 l1_1.length c1_1] (by rfl) rfl rfl (by (try simp only [m3]); first | done | rfl | (simp only [d2]; rfl)) ?_
 with_reducible refine (slices_Clone_int_int.calls _ _ l1_1 t200 _ ?side1 ?side2 A4.out).mono ?_
 (case side1 => exact zC (Kd.C_below HR1_1.out HB.out))
 (case side2 => exact HC1_1.out)
 rintro e w14 ⟨v201, rfl, ho0, hb⟩; refine ⟨_, rfl, ?_⟩; replace HO0 := Aside0.mk (Kd.V_elder' (by (with_reducible repeat (first | apply Kd.V_alloc | apply Kd.V_drewN | apply Kd.V_drew)); exact HO0.out) (Kd.R_base ho0) hb); replace HO1_0 := Aside0.mk (Kd.V_elder' (by (with_reducible repeat (first | apply Kd.V_alloc | apply Kd.V_drewN | apply Kd.V_drew)); exact HO1_0.out) (Kd.R_base ho0) hb); replace HO196 := Aside0.mk (Kd.N_elder' (by (with_reducible repeat (first | apply Kd.N_alloc | apply Kd.N_drewN | apply Kd.N_drew)); exact HO196.out) (Kd.R_base ho0) hb); have HO202 := Aside0.mk (Kd.R_lower (Kd.R_new' (Kd.R_newM (M := fun k_ => (w.heap.size ≤ k_)) ho0 (below_size (zS HB.out)) (fun k_ h_ => h_)) (Kd.R_lt (zR HO199.out))) (below_size (zS HB.out))); replace HO199 := xE HO199 ho0 hb; replace BK192 := xB BK192 hb; replace BK193 := xB BK193 hb; replace HB := xS HB hb
 (try clear hb)
 (try clear hb2)
 (try clear hk)
 (try clear hi)
 (try clear ho0)
 obtain ⟨Ao15, co15, eo15⟩ := Kd.R_slice HO202.out
 (first | subst eo15 | (injection eo15 with f1_ f2_ f3_; have f4_ := f1_.symm; have f5_ := f3_.symm; clear f1_ f2_ f3_; subst f4_; subst f5_))
 obtain ⟨Ao16, co16, eo16⟩ := Kd.R_slice HO199.out
 (first | subst eo16 | (injection eo16 with f1_ f2_ f3_; have f4_ := f1_.symm; have f5_ := f3_.symm; clear f1_ f2_ f3_; subst f4_; subst f5_))
 refine hK.out _ _ ⟨b1 BK192 0, b1 BK192 1⟩ (fun hHeld => ?_); clear hK K; refine norm_ (a' := ?_) ?_ ?_; rotate_left
 ·show Act.put _ (some 13) _ = _; simp only [Act.put, q5]; rfl
 refine pu 8 (some 14) bl10 HT_ ?_ rfl rfl (.inl ⟨by rfl, ?_⟩) ?_ ?_ ?_; rotate_left; (intro w'; go_simp; with_reducible rfl); rotate_left; (simp only [Act.put, q5]; rfl)
 refine one_ (i := 10) (N := some 16) bl11 rfl rfl (one_of HT_.out (by kernel_rfl)) (by decide) (fun K hK => ?_); refine goes_ Try.func56 (by kernel_rfl) rfl #[.agg #[.slice A1_0 l1_0.length c1_0, .slice A1_1 l1_1.length c1_1]] (by rfl) rfl rfl (by (try simp only [m3]); first | done | rfl | (simp only [d2]; rfl)) ?_
 with_reducible refine (impl_isRight.calls k _ _ l1_0 _ _ l1_1 t203 _ ?side1 ?side2 ?side3 ?side4 A5.out).mono ?_
 (case side1 => exact zC (Kd.V_reads' HO1_0.out).2.2)
 (case side2 => exact (Kd.V_reads' HO1_0.out).2.1)
 (case side3 => exact zC (Kd.C_below HR1_1.out HB.out))
 (case side4 => exact HC1_1.out)
 rintro e w17 ⟨rfl, hb⟩; refine ⟨_, rfl, ?_⟩; replace HO0 := Aside0.mk (Kd.V_below (by (with_reducible repeat (first | apply Kd.V_alloc | apply Kd.V_drewN | apply Kd.V_drew)); exact HO0.out) hb); replace HO1_0 := Aside0.mk (Kd.V_below (by (with_reducible repeat (first | apply Kd.V_alloc | apply Kd.V_drewN | apply Kd.V_drew)); exact HO1_0.out) hb); replace HO196 := Aside0.mk (Kd.N_below (by (with_reducible repeat (first | apply Kd.N_alloc | apply Kd.N_drewN | apply Kd.N_drew)); exact HO196.out) hb); replace HO199 := xR HO199 hb; replace HO202 := xR HO202 hb; replace BK192 := xB BK192 hb; replace BK193 := xB BK193 hb; replace HB := xS HB hb
 (try clear hb)
 (try clear hb2)
 (try clear hk)
 (try clear hi)
 refine hK.out _ _ ⟨b1 BK192 0, b1 BK192 1⟩ (fun hHeld => ?_); clear hK K; refine norm_ (a' := ?_) ?_ ?_; rotate_left
 ·show Act.put _ (some 16) _ = _; simp only [Act.put, q5]; rfl
 refine one_ (i := 11) (N := some 17) bl12 rfl rfl (one_of HT_.out (by kernel_rfl)) (by decide) (fun K hK => ?_); refine goes_ Try.func60 (by kernel_rfl) rfl #[.agg #[.slice Ao16 t197.length co16, .slice Ao15 t200.length co15], .bool t203] (by rfl) rfl rfl (by (try simp only [m3]); first | done | rfl | (simp only [d2]; rfl)) ?_
 with_reducible refine (impl_rightOr.calls k (fun k_ => some k_ = (.slice Ao16 t197.length co16 : Value).ownBlock) (.slice Ao16 t197.length co16) t197 (fun k_ => some k_ = (.slice Ao15 t200.length co15 : Value).ownBlock) (.slice Ao15 t200.length co15) t200 t203 t204 t207 t210 w _ ?side1 ?side2 ?side3 ?side4 ?side5 A6.out).mono ?_
 (case side1 => repeat (first | (with_reducible first | exact HB.out | apply below_alloc | apply pw_below_drewN | apply below_drew1 | refine below_set ?_ GE192.out | refine below_set ?_ GE193.out) | exact HB.out))
 (case side2 => exact Kd.R_tight rfl HO199.out)
 (case side3 => exact fun k_ e_ => (HO199.out.1 k_ e_.symm).2)
 (case side4 => exact Kd.R_tight rfl HO202.out)
 (case side5 => exact fun k_ e_ => (HO202.out.1 k_ e_.symm).2)
 rintro e w18 ⟨v205, v208, rfl, ho0, ho1, hb, hkp⟩; refine ⟨_, rfl, ?_⟩; have n0_ := Aside0.mk (Kd.V_mono (ok' := fun k_ => ((P0_ k_ ∨ P1_0_ k_) ∨ w.heap.size ≤ k_) ∧ some k_ ≠ (.slice Ao12 y194.length co12 : Value).ownBlock ∧ k_ ≠ gb192 ∧ k_ ≠ gb193 ∧ some k_ ≠ (v205 : Value).ownBlock ∧ some k_ ≠ (v208 : Value).ownBlock) (Kd.V_keptB (HO0.out) hkp (fun k_ hk_ hs_ => Or.elim hs_ (fun e_ => (hk_.1.2) e_) (fun e_ => (hk_.2) e_))) (fun k_ hk_ => ⟨hk_.1.1.1.1.1.1, hk_.1.1.1.2, hk_.1.1.1.1.1.2, hk_.1.1.1.1.2, fun e_ => Or.elim (ho0.1 k_ e_.symm).1 (fun hs_ => hk_.2.1 hs_) (fun hn_ => Nat.not_le.2 hk_.2.2 hn_), fun e_ => Or.elim (ho1.1 k_ e_.symm).1 (fun hs_ => hk_.2.1 hs_) (fun hn_ => Nat.not_le.2 hk_.2.2 hn_)⟩)); have n1_ := Aside0.mk (Kd.V_mono (ok' := fun k_ => ((P0_ k_ ∨ P1_0_ k_) ∨ w.heap.size ≤ k_) ∧ some k_ ≠ (.slice Ao12 y194.length co12 : Value).ownBlock ∧ k_ ≠ gb192 ∧ k_ ≠ gb193 ∧ some k_ ≠ (v205 : Value).ownBlock ∧ some k_ ≠ (v208 : Value).ownBlock) (Kd.V_keptB (HO1_0.out) hkp (fun k_ hk_ hs_ => Or.elim hs_ (fun e_ => (hk_.1.2) e_) (fun e_ => (hk_.2) e_))) (fun k_ hk_ => ⟨hk_.1.1.1.1.1.1, hk_.1.1.1.2, hk_.1.1.1.1.1.2, hk_.1.1.1.1.2, fun e_ => Or.elim (ho0.1 k_ e_.symm).1 (fun hs_ => hk_.2.1 hs_) (fun hn_ => Nat.not_le.2 hk_.2.2 hn_), fun e_ => Or.elim (ho1.1 k_ e_.symm).1 (fun hs_ => hk_.2.1 hs_) (fun hn_ => Nat.not_le.2 hk_.2.2 hn_)⟩)); have n2_ := Aside0.mk (blk_kept (zB BK192.out) hkp (fun hs_ => Or.elim hs_ (fun e_ => (fun e_ => (Kd.R_ne HO199.out BK192.out (by decide)) e_) e_) (fun e_ => (fun e_ => (Kd.R_ne HO202.out BK192.out (by decide)) e_) e_))); have n3_ := Aside0.mk (blk_kept (zB BK193.out) hkp (fun hs_ => Or.elim hs_ (fun e_ => (fun e_ => (Kd.R_ne HO199.out BK193.out (by decide)) e_) e_) (fun e_ => (fun e_ => (Kd.R_ne HO202.out BK193.out (by decide)) e_) e_))); have n4_ := Aside0.mk (Kd.N_mono (ok' := fun k_ => ((P0_ k_ ∨ P1_0_ k_) ∨ w.heap.size ≤ k_) ∧ k_ ≠ gb192 ∧ k_ ≠ gb193 ∧ some k_ ≠ (v205 : Value).ownBlock ∧ some k_ ≠ (v208 : Value).ownBlock) (Kd.N_keptB (HO196.out) hkp (fun k_ hk_ hs_ => Or.elim hs_ (fun e_ => (hk_.1.2) e_) (fun e_ => (hk_.2) e_))) (fun k_ hk_ => ⟨hk_.1.1.1.1, hk_.1.1.1.2.1, hk_.1.1.1.2.2, fun e_ => Or.elim (ho0.1 k_ e_.symm).1 (fun hs_ => hk_.2.1 hs_) (fun hn_ => Nat.not_le.2 hk_.2.2 hn_), fun e_ => Or.elim (ho1.1 k_ e_.symm).1 (fun hs_ => hk_.2.1 hs_) (fun hn_ => Nat.not_le.2 hk_.2.2 hn_)⟩)); have n5_ := Aside0.mk (Kd.R_mono (ok' := fun k_ => (w.heap.size ≤ k_) ∧ some k_ ≠ (v208 : Value).ownBlock) ho0 (fun k_ hk_ => ⟨Or.elim hk_.1 (fun hs_ => Or.elim hs_ (fun hs_ => (HO199.out.1 k_ (hs_).symm).1.1) (fun hs_ => (HO202.out.1 k_ (hs_).symm).1.1)) (fun hn_ => (Nat.le_trans (below_size (zS HB.out)) hn_)), hk_.2⟩))
 have n6_ := Aside0.mk (Kd.R_mono (ok' := fun k_ => (w.heap.size ≤ k_) ∧ some k_ ≠ (v205 : Value).ownBlock) ho1 (fun k_ hk_ => ⟨Or.elim hk_.1 (fun hs_ => Or.elim hs_ (fun hs_ => (HO199.out.1 k_ (hs_).symm).1.1) (fun hs_ => (HO202.out.1 k_ (hs_).symm).1.1)) (fun hn_ => (Nat.le_trans (below_size (zS HB.out)) hn_)), hk_.2⟩)); have n7_ := Aside0.mk (hb); clear HO0; clear HO1_0; clear BK192; clear BK193; clear HO196; clear HB; clear HO199; clear HO202; have HO0 := n0_; have HO1_0 := n1_; have BK192 := n2_; have BK193 := n3_; have HO196 := n4_; have HO206 := n5_; have HO209 := n6_; have HB := n7_; clear n0_ n1_ n2_ n3_ n4_ n5_ n6_ n7_
 (try clear hb)
 (try clear hkp)
 (try clear ho0)
 (try clear ho1)
 obtain ⟨Ao19, co19, eo19⟩ := Kd.R_slice HO206.out
 (first | subst eo19 | (injection eo19 with f1_ f2_ f3_; have f4_ := f1_.symm; have f5_ := f3_.symm; clear f1_ f2_ f3_; subst f4_; subst f5_))
 obtain ⟨Ao21, co21, eo21⟩ := Kd.R_slice HO209.out
 (first | subst eo21 | (injection eo21 with f1_ f2_ f3_; have f4_ := f1_.symm; have f5_ := f3_.symm; clear f1_ f2_ f3_; subst f4_; subst f5_))
 refine hK.out _ _ ⟨b1 BK192 0, b1 BK192 1⟩ (fun hHeld => ?_); clear hK K; refine norm_ (a' := ?_) ?_ ?_; rotate_left
 ·show Act.put _ (some 17) _ = _; simp only [Act.put, q5]; rfl
 refine pu 12 (some 18) bl13 HT_ ?_ rfl rfl (.inl ⟨by rfl, ?_⟩) ?_ ?_ ?_; rotate_left; (intro w'; go_simp; with_reducible rfl); rotate_left; (simp only [Act.put, q5]; rfl)
 refine pu 13 (some 19) bl14 HT_ ?_ rfl rfl (.inl ⟨by rfl, ?_⟩) ?_ ?_ ?_; rotate_left; (intro w'; go_simp; with_reducible rfl); rotate_left; (simp only [Act.put, q5]; rfl)
 refine one_ (i := 14) (N := none) bl15 rfl rfl (one_of HT_.out (by kernel_rfl)) (by decide) (fun K hK => ?_); have hs20 : w18.cell? ⟨gb193, 0, none⟩ = some (.slice none 0 0) := b1 BK193 0; have hfs20 := blk_frozen BK193.out 0; have hns20_0 := NB192_193.out; have hms20_0 := NB193_192.out; have hs22 : w18.cell? ⟨gb193, 1, none⟩ = some (.slice none 0 0) := b1 BK193 1; have hfs22 := blk_frozen BK193.out 1; have hns22_0 := NB192_193.out; have hms22_0 := NB193_192.out; refine skip_ (w1 := ?_) (by rfl) rfl ?_ ?_; rotate_left
 ·go_simp; rfl
 refine hK.out _ _ ⟨((cell_far (p := ⟨gb193, _, none⟩) NB192_193.out _).trans (((cell_far (p := ⟨gb193, _, none⟩) NB192_193.out _).trans (hHeld.1)))), ((cell_far (p := ⟨gb193, _, none⟩) NB192_193.out _).trans (((cell_far (p := ⟨gb193, _, none⟩) NB192_193.out _).trans (hHeld.2))))⟩ (fun hHeld => ?_); clear hK K
 refine pu 15 (some 5) bl16 HT_ ?_ rfl rfl (.inl ⟨by rfl, ?_⟩) ?_ ?_ ?_; rotate_left; (intro w'; go_simp; with_reducible rfl); rotate_left; (simp only [Act.put, q5]; rfl)
 refine done_ (done_of HT_.out (by kernel_rfl)) ?_
 try go_wp2
 refine bodyPost_ret (results_ct rfl _ _ gb193 27 #[.slice Ao19 t204.length co19, .slice Ao21 t207.length co21] (0, 0) _ rfl (by (with_reducible repeat (first | refine blk_drewN ?_ _ | refine blk_drew ?_ | refine blk_alloc ?_ _)); refine blk_put (cs := #[.slice Ao19 t204.length co19, .slice none 0 0]) ?_ 1 _ rfl; (with_reducible repeat (first | refine blk_drewN ?_ _ | refine blk_drew ?_ | refine blk_alloc ?_ _)); refine blk_put (cs := #[.slice none 0 0, .slice none 0 0]) ?_ 0 _ rfl; (with_reducible repeat (first | refine blk_drewN ?_ _ | refine blk_drew ?_ | refine blk_alloc ?_ _)); exact BK193.out) Try.underlying27 rfl (by kernel_rfl)) rfl ?_; exact ⟨_, _, by first | rfl | (simp [errW_none, errW_some] <;> rfl) | (simp [*, errW_none, errW_some] <;> rfl), by (with_reducible repeat (first | apply Kd.R_alloc | apply Kd.R_drewN | apply Kd.R_drew)); exact Kd.R_mono (Kd.R_far (p := ⟨gb193, 1, none⟩) (Kd.R_far (p := ⟨gb193, 0, none⟩) (Kd.R_types HO206.out BK193.out (by decide)) (fun _ hk => hk.2) (.slice Ao19 t204.length co19)) (fun _ hk => hk.2) (.slice Ao21 t207.length co21)) (fun _ hk => ⟨hk.1.1, hk.1.2⟩), by (with_reducible repeat (first | apply Kd.R_alloc | apply Kd.R_drewN | apply Kd.R_drew)); exact Kd.R_mono (Kd.R_far (p := ⟨gb193, 1, none⟩) (Kd.R_far (p := ⟨gb193, 0, none⟩) (Kd.R_types HO209.out BK193.out (by decide)) (fun _ hk => hk.2) (.slice Ao19 t204.length co19)) (fun _ hk => hk.2) (.slice Ao21 t207.length co21)) (fun _ hk => ⟨hk.1.1, hk.1.2⟩), by repeat (first | (with_reducible first | exact HB.out | apply below_alloc | apply pw_below_drewN | apply below_drew1 | refine below_set ?_ GE192.out | refine below_set ?_ GE193.out) | exact HB.out)⟩

end Go.Proofs.Ythkljpbddddhdaa.MFnExactWordJoin
