-- Written by a program of this session, out of Lean's print of the translation. Not trusted: Lean checks it.
import Derived.Test.YtjnieoogddmmcaaMFnExactExprOfx0
import Derived.Test.YtjnieoogddmmcaaMFnExactExprOfx1
namespace Go.Proofs.Ytjnieoogddmmcaa.MFnExactExprOf
open Go.RowKit Go.Proofs.YtjnieoogddmmcaaW.PrintWords Go.Proofs.YtjnieoogddmmcaaW.PrintLast Go.Proofs.YtjnieoogddmmcaaW.PrintMore
attribute [local go_sem] max2_int min2_int max_two min_two max_three min_three max_four min_four   -- for this text's walks alone
set_option linter.unusedVariables false
set_option linter.unusedSimpArgs false

/-! ### spec_ExprOf: function 18 -/
mutual
def spec_ExprOf.j0 : Nat → Int → Int → List (S45) → Int → Bool → Option ((List (S45)) × Bool)
  | 0, _, _, _, _, _ => none
  | k + 1, x0, x1, x6, x7, x20 => if x20 = true then (some (x6, false)) else (if x0 = 0 then (some ((([(⟨2, 0, 0⟩ : S45)] : List (S45))), true)) else (if x0 = x7 then (some ((([(⟨1, 0, 0⟩ : S45)] : List (S45))), true)) else (spec_ExprOf.l0 k x0 x1 x6 (([] : List (S45))) 0)))
def spec_ExprOf.l0 : Nat → Int → Int → List (S45) → List (S45) → Int → Option ((List (S45)) × Bool)
  | 0, _, _, _, _, _ => none
  | k + 1, x0, x1, x6, x8, x9 => if 0 ≤ x1 then (if x9 < (shl .i64 1 x1) then ((spec_l1Has.f x0 x9).bind fun t138 => (if t138 = true then ((spec_l2Product.f k x8 x9 x1).bind fun t139 => (if (wrap64 ((x8.length : Int) - 1)) ≥ 0 then (if t139.length < 5864062014805 then (spec_ExprOf.l0 k x0 x1 x6 (t139 ++ [(⟨6, wrap64 ((x8.length : Int) - 1), wrap64 ((t139.length : Int) - 1)⟩ : S45)]) (wrap64 (x9 + 1))) else (none)) else (spec_ExprOf.l0 k x0 x1 x6 t139 (wrap64 (x9 + 1))))) else (spec_ExprOf.l0 k x0 x1 x6 x8 (wrap64 (x9 + 1))))) else (if (x8.length : Int) > 31 then (some (x6, false)) else (some (x8, true)))) else (none)
end
def spec_ExprOf.f (k : Nat) (a0 : Int) (a1 : Int) : Option ((List (S45)) × Bool) := (some (([] : List (S45)) : List (S45))).bind fun y123 => ((spec_l1In.f a1 0 3).bind fun t126 => (if t126 = true then (if 0 ≤ a1 then ((spec_SetOk.f a0).bind fun t127 => (if t127 = true then ((spec_SetIn.f a0 (wrap64 ((shl .i64 1 (shl .u64 1 a1)) - 1))).bind fun t128 => (spec_ExprOf.j0 k a0 a1 y123 (wrap64 ((shl .i64 1 (shl .u64 1 a1)) - 1)) (!t128))) else (spec_ExprOf.j0 k a0 a1 y123 (wrap64 ((shl .i64 1 (shl .u64 1 a1)) - 1)) true))) else (none)) else (some (y123, false))))
theorem spec_ExprOf.mono_l : ∀ k, (∀ y0 y1 y2 y3 y4, LeO (spec_ExprOf.j0 k y0 y1 y2 y3 y4) (spec_ExprOf.j0 (k + 1) y0 y1 y2 y3 y4)) ∧ (∀ y0 y1 y2 y3 y4, LeO (spec_ExprOf.l0 k y0 y1 y2 y3 y4) (spec_ExprOf.l0 (k + 1) y0 y1 y2 y3 y4))
  | 0 => ⟨fun _ _ _ _ _ r h => by simp [spec_ExprOf.j0] at h, fun _ _ _ _ _ r h => by simp [spec_ExprOf.l0] at h⟩
  | k + 1 => by
    obtain ⟨ih0, ih1⟩ := spec_ExprOf.mono_l k
    refine ⟨?_, ?_⟩
    · intro y0 y1 y2 y3 y4
      unfold spec_ExprOf.j0
      repeat' first
      | (with_reducible exact ih0 _ _ _ _ _)
      | (with_reducible exact ih1 _ _ _ _ _)
      | (with_reducible exact spec_l2Product.mono _ _ _ _)
      | (with_reducible exact LeO.refl _)
      | (with_reducible exact LeO.none _)
      | (with_reducible refine LeO.ite ?_ ?_)
      | (with_reducible refine LeO.bind ?_ (fun _ => ?_))
      | exact ih0 _ _ _ _ _
      | exact ih1 _ _ _ _ _
      | exact spec_l2Product.mono _ _ _ _
      | exact LeO.none _
      | refine LeO.ite ?_ ?_
      | refine LeO.bind ?_ (fun _ => ?_)
    · intro y0 y1 y2 y3 y4
      unfold spec_ExprOf.l0
      repeat' first
      | (with_reducible exact ih0 _ _ _ _ _)
      | (with_reducible exact ih1 _ _ _ _ _)
      | (with_reducible exact spec_l2Product.mono _ _ _ _)
      | (with_reducible exact LeO.refl _)
      | (with_reducible exact LeO.none _)
      | (with_reducible refine LeO.ite ?_ ?_)
      | (with_reducible refine LeO.bind ?_ (fun _ => ?_))
      | exact ih0 _ _ _ _ _
      | exact ih1 _ _ _ _ _
      | exact spec_l2Product.mono _ _ _ _
      | exact LeO.none _
      | refine LeO.ite ?_ ?_
      | refine LeO.bind ?_ (fun _ => ?_)
theorem spec_ExprOf.mono : ∀ a0 a1 k, LeO (spec_ExprOf.f k a0 a1) (spec_ExprOf.f (k + 1) a0 a1) := by
  intro a0 a1 k
  obtain ⟨ih0, ih1⟩ := spec_ExprOf.mono_l k
  unfold spec_ExprOf.f
  repeat' first
      | (with_reducible exact ih0 _ _ _ _ _)
      | (with_reducible exact ih1 _ _ _ _ _)
      | (with_reducible exact spec_l2Product.mono _ _ _ _)
      | (with_reducible exact LeO.refl _)
      | (with_reducible exact LeO.none _)
      | (with_reducible refine LeO.ite ?_ ?_)
      | (with_reducible refine LeO.bind ?_ (fun _ => ?_))
      | exact ih0 _ _ _ _ _
      | exact ih1 _ _ _ _ _
      | exact spec_l2Product.mono _ _ _ _
      | exact LeO.none _
      | refine LeO.ite ?_ ?_
      | refine LeO.bind ?_ (fun _ => ?_)
set_option maxHeartbeats 8000000 in
set_option maxRecDepth 100000 in
theorem spec_ExprOf.calls (k : Nat) (a0 : Int) (a1 : Int) (r1 : List (S45)) (r2 : Bool) (w : World) (h : spec_ExprOf.f k a0 a1 = some (r1, r2)) :
    Calls Try.prog 18 #[.int .i64 a0, .int .i64 a1] w fun e w' => ∃ v0_ : Value, e = .returned (.tuple #[v0_, .bool r2]) ∧ Kd.R k45 45 w' w.heap.size (fun _ => True) v0_ r1 ∧ Below w.heap.size w w' := by
  have hu45 := Try.underlying45
  have HB := Aside0.mk (Below.refl w.heap.size w)
  have H : ((some (([] : List (S45)) : List (S45))).bind fun y123 => ((spec_l1In.f a1 0 3).bind fun t126 => (if t126 = true then (if 0 ≤ a1 then ((spec_SetOk.f a0).bind fun t127 => (if t127 = true then ((spec_SetIn.f a0 (wrap64 ((shl .i64 1 (shl .u64 1 a1)) - 1))).bind fun t128 => (spec_ExprOf.j0 k a0 a1 y123 (wrap64 ((shl .i64 1 (shl .u64 1 a1)) - 1)) (!t128))) else (spec_ExprOf.j0 k a0 a1 y123 (wrap64 ((shl .i64 1 (shl .u64 1 a1)) - 1)) true))) else (none)) else (some (y123, false))))) = some (r1, r2) := h
  clear h
  obtain ⟨y123, hy123⟩ : ∃ y_ : List (S45), y_ = (([] : List (S45))) := ⟨_, rfl⟩
  replace H : ((spec_l1In.f a1 0 3).bind fun t126 => (if t126 = true then (if 0 ≤ a1 then ((spec_SetOk.f a0).bind fun t127 => (if t127 = true then ((spec_SetIn.f a0 (wrap64 ((shl .i64 1 (shl .u64 1 a1)) - 1))).bind fun t128 => (spec_ExprOf.j0 k a0 a1 y123 (wrap64 ((shl .i64 1 (shl .u64 1 a1)) - 1)) (!t128))) else (spec_ExprOf.j0 k a0 a1 y123 (wrap64 ((shl .i64 1 (shl .u64 1 a1)) - 1)) true))) else (none)) else (some (y123, false)))) = some (r1, r2) := by first | (rw [hy123]; with_reducible exact H) | (have H2_ := (Option.bind_some _ _).symm.trans H; rw [hy123]; with_reducible exact H2_) | (have H2_ := (Option.bind_some _ _).symm.trans H; with_reducible exact H2_) | with_reducible exact H | (rw [hy123]; exact H) | exact H
  have Ny123 := Aside0.mk hy123
  clear hy123
  replace H := Option.bind_eq_some_iff.mp H
  obtain ⟨t126, A30, H⟩ := H
  replace H : (if t126 = true then (if 0 ≤ a1 then ((spec_SetOk.f a0).bind fun t127 => (if t127 = true then ((spec_SetIn.f a0 (wrap64 ((shl .i64 1 (shl .u64 1 a1)) - 1))).bind fun t128 => (spec_ExprOf.j0 k a0 a1 y123 (wrap64 ((shl .i64 1 (shl .u64 1 a1)) - 1)) (!t128))) else (spec_ExprOf.j0 k a0 a1 y123 (wrap64 ((shl .i64 1 (shl .u64 1 a1)) - 1)) true))) else (none)) else (some (y123, false))) = some (r1, r2) := H
  have A3 := Aside0.mk A30
  clear A30
  by_cases c4 : t126 = true
  · subst c4
    have H1 : (if 0 ≤ a1 then ((spec_SetOk.f a0).bind fun t127 => (if t127 = true then ((spec_SetIn.f a0 (wrap64 ((shl .i64 1 (shl .u64 1 a1)) - 1))).bind fun t128 => (spec_ExprOf.j0 k a0 a1 y123 (wrap64 ((shl .i64 1 (shl .u64 1 a1)) - 1)) (!t128))) else (spec_ExprOf.j0 k a0 a1 y123 (wrap64 ((shl .i64 1 (shl .u64 1 a1)) - 1)) true))) else (none)) = some (r1, r2) := by rw [if_pos rfl] at H; exact H
    clear H
    have H := H1
    clear H1
    by_cases c5 : 0 ≤ a1
    · rw [if_pos c5] at H
      have c5b0 := eq_true c5
      have c5b1 : decide (0 ≤ a1) = true := decide_eq_true c5
      clear c5
      obtain ⟨ji6, hji6⟩ : ∃ j_ : Int, (shl .u64 1 a1) = j_ := ⟨_, rfl⟩
      replace H : ((spec_SetOk.f a0).bind fun t127 => (if t127 = true then ((spec_SetIn.f a0 (wrap64 ((shl .i64 1 (ji6)) - 1))).bind fun t128 => (spec_ExprOf.j0 k a0 a1 y123 (wrap64 ((shl .i64 1 (ji6)) - 1)) (!t128))) else (spec_ExprOf.j0 k a0 a1 y123 (wrap64 ((shl .i64 1 (ji6)) - 1)) true))) = some (r1, r2) := by first | (rw [hji6] at H; exact H) | (simp only [hji6] at H ⊢; exact H)
      (try rw [hji6] at A3)
      have hji6_ : (IntKind.u64.wrap (1 * 2 ^ min a1.toNat 64)) = ji6 := hji6
      have hji6z : a1 ≤ 64 → (IntKind.u64.wrap (1 * 2 ^ a1.toNat)) = ji6 := shl_small hji6
      have hji6l : 0 ≤ ji6 := by rw [← hji6_]; simp only [IntKind.wrap, IntKind.bits, IntKind.signed]; exact Int.emod_nonneg _ (by decide)
      have hji6m : (0 ≤ ji6) = True := eq_true hji6l
      have hji6n : decide (0 ≤ ji6) = true := decide_eq_true hji6l
      have hji6u : (IntKind.u64.wrap (2 ^ min a1.toNat 64)) = ji6 := by have h_ := hji6_; rw [Int.one_mul] at h_; exact h_
      have hji6v : a1 ≤ 64 → (IntKind.u64.wrap (2 ^ a1.toNat)) = ji6 := fun hle_ => by have h_ := hji6z hle_; rw [Int.one_mul] at h_; exact h_
      obtain ⟨ji7, hji7⟩ : ∃ j_ : Int, (shl .i64 1 (ji6)) = j_ := ⟨_, rfl⟩
      replace H : ((spec_SetOk.f a0).bind fun t127 => (if t127 = true then ((spec_SetIn.f a0 (wrap64 ((ji7) - 1))).bind fun t128 => (spec_ExprOf.j0 k a0 a1 y123 (wrap64 ((ji7) - 1)) (!t128))) else (spec_ExprOf.j0 k a0 a1 y123 (wrap64 ((ji7) - 1)) true))) = some (r1, r2) := by first | (rw [hji7] at H; exact H) | (simp only [hji7] at H ⊢; exact H)
      (try rw [hji7] at A3)
      have hji7_ : (IntKind.i64.wrap (1 * 2 ^ min (ji6).toNat 64)) = ji7 := hji7
      have hji7z : (ji6) ≤ 64 → (IntKind.i64.wrap (1 * 2 ^ (ji6).toNat)) = ji7 := shl_small hji7
      have hji7u : (IntKind.i64.wrap (2 ^ min (ji6).toNat 64)) = ji7 := by have h_ := hji7_; rw [Int.one_mul] at h_; exact h_
      have hji7v : (ji6) ≤ 64 → (IntKind.i64.wrap (2 ^ (ji6).toNat)) = ji7 := fun hle_ => by have h_ := hji7z hle_; rw [Int.one_mul] at h_; exact h_
      have hji7y : (wrap64 (1 * 2 ^ min (ji6).toNat 64)) = ji7 := (i64_w _).symm.trans hji7_
      have hji7x : (ji6) ≤ 64 → (wrap64 (1 * 2 ^ (ji6).toNat)) = ji7 := fun h_ => (i64_w _).symm.trans (hji7z h_)
      have HC8 := Aside0.mk H
      clear H
      go_enter Try.func18, Try.ntmps18
      go_upto_region 5 with (first | ((with_reducible refine gate_dst (N := 11) rfl ?_); refine Kd.R_lit k45 _ 45 ?hg (N := 11) ?hd (xs := ([] : List (S45))) (inner := []) (ok := fun _ => True) (okp := fun _ => True) ?hr ?hp (fun _ hk => hk) trivial (Below.refl _ _) (Nat.le_refl _) (by simp) ?_; (case hd => rfl); (case hg => rfl); (case hr => first | (go_simp; done) | (go_simp; rfl)); (case hp => exact (Reps.none _ _)); intro v124 w9 ho10 hb hg_ hnew_; clear hg_ hnew_; (first | rw [← Ny123.out] at ho10 | (simp only [Int.reduceToNat] at ho10; rw [← Ny123.out] at ho10)); have n0_ := Aside0.mk (Kd.R_lower ho10 (below_size (by repeat (first | (with_reducible first | exact HB.out | apply below_alloc | apply pw_below_drewN | apply below_drew1) | exact HB.out)))); have n1_ := Aside0.mk (below_step (by repeat (first | (with_reducible first | exact HB.out | apply below_alloc | apply pw_below_drewN | apply below_drew1) | exact HB.out)) hb); clear HB; have HO125 := n0_; have HB := n1_; clear n0_ n1_; clear hb ho10) | ((with_reducible refine gate_callee (f := 33) rfl ?_); refine goesL_ (some 13) rfl rfl Try.func33 (by kernel_rfl) rfl #[.int .i64 a1, .int .i64 0, .int .i64 3] rfl (by (try simp only [List.map_toArray, List.map_cons, List.map_nil]); first | done | rfl | (simp only [List.length_drop, List.length_take]; rfl)) ?_; (with_reducible refine (spec_l1In.calls a1 0 3 true _ A3.out).mono ?_); rintro e w' ⟨rfl, ⟨nd, rfl⟩⟩; refine ⟨_, rfl, ?_⟩))
      (try simp only [Act.put, List.setIfInBounds_toArray, List.set_cons_zero, List.set_cons_succ])
      go_cut [20] (fun v20 wc => ∃ (kq : Nat) (x20_7 : Bool), v20 = .bool x20_7 ∧ Aside0 (spec_ExprOf.j0 kq a0 a1 y123 (wrap64 ((ji7) - 1)) x20_7 = some (r1, r2)) ∧ Aside0 (kq ≤ k) ∧ Aside0 (Kd.R k45 45 wc w.heap.size (fun _ => True) v124 y123) ∧ Aside0 (Below w.heap.size w wc))
      case first =>
        have H := HC8.out
        clear HC8
        replace H := Option.bind_eq_some_iff.mp H
        obtain ⟨t127, A110, H⟩ := H
        replace H : (if t127 = true then ((spec_SetIn.f a0 (wrap64 ((ji7) - 1))).bind fun t128 => (spec_ExprOf.j0 k a0 a1 y123 (wrap64 ((ji7) - 1)) (!t128))) else (spec_ExprOf.j0 k a0 a1 y123 (wrap64 ((ji7) - 1)) true)) = some (r1, r2) := H
        have A11 := Aside0.mk A110
        clear A110
        by_cases c12 : t127 = true
        · subst c12
          have H1 : ((spec_SetIn.f a0 (wrap64 ((ji7) - 1))).bind fun t128 => (spec_ExprOf.j0 k a0 a1 y123 (wrap64 ((ji7) - 1)) (!t128))) = some (r1, r2) := by rw [if_pos rfl] at H; exact H
          clear H
          have H := H1
          clear H1
          replace H := Option.bind_eq_some_iff.mp H
          obtain ⟨t128, A130, H⟩ := H
          replace H : (spec_ExprOf.j0 k a0 a1 y123 (wrap64 ((ji7) - 1)) (!t128)) = some (r1, r2) := H
          have A13 := Aside0.mk A130
          clear A130
          have H' := Aside0.mk H
          clear H
          go_wp2_with (first | ((with_reducible refine gate_callee (f := 43) rfl ?_); refine goesL_ (some 22) rfl rfl Try.func43 (by kernel_rfl) rfl #[.int .i64 a0] rfl (by (try simp only [List.map_toArray, List.map_cons, List.map_nil]); first | done | rfl | (simp only [List.length_drop, List.length_take]; rfl)) ?_; (with_reducible refine (spec_SetOk.calls a0 true _ A11.out).mono ?_); rintro e w' ⟨rfl, ⟨nd, rfl⟩⟩; refine ⟨_, rfl, ?_⟩) | (go_at_call 44; (with_reducible refine (spec_SetIn.calls a0 (wrap64 ((ji7) - 1)) t128 _ A13.out).mono ?_); rintro e w' ⟨rfl, ⟨nd, rfl⟩⟩))
          (first | go_meet | ((try simp only [← hji6]); (try simp only [← hji7]); go_meet))
          case rel => exact ⟨_, (!t128), (by first | rfl | (simp; done) | (simp [*]; done) | (rw [Int.tmod_eq_emod_of_nonneg (Int.natCast_nonneg _)]; done)), (by first | exact H' | (have h_ := H'; (try simp only [← hji6] at h_); (try simp only [← hji6]); (try simp only [← hji7] at h_); (try simp only [← hji7]); exact h_)), ⟨by first | omega | exact Nat.le_refl _⟩, ⟨by (with_reducible repeat (first | apply Kd.R_alloc | apply Kd.R_drewN | apply Kd.R_drew)); exact HO125.out⟩, ⟨by repeat (first | (with_reducible first | exact HB.out | apply below_alloc | apply pw_below_drewN | apply below_drew1) | exact HB.out)⟩⟩
        · replace c12 := Bool.eq_false_iff.mpr c12
          subst c12
          have H1 : (spec_ExprOf.j0 k a0 a1 y123 (wrap64 ((ji7) - 1)) true) = some (r1, r2) := by rw [if_neg (show ¬ (false = true) by decide)] at H; exact H
          clear H
          have H := H1
          clear H1
          have H' := Aside0.mk H
          clear H
          go_wp2_with (first | ((with_reducible refine gate_callee (f := 43) rfl ?_); refine goesL_ (some 22) rfl rfl Try.func43 (by kernel_rfl) rfl #[.int .i64 a0] rfl (by (try simp only [List.map_toArray, List.map_cons, List.map_nil]); first | done | rfl | (simp only [List.length_drop, List.length_take]; rfl)) ?_; (with_reducible refine (spec_SetOk.calls a0 false _ A11.out).mono ?_); rintro e w' ⟨rfl, ⟨nd, rfl⟩⟩; refine ⟨_, rfl, ?_⟩))
          (first | go_meet | ((try simp only [← hji6]); (try simp only [← hji7]); go_meet))
          case rel => exact ⟨_, (true), (by first | rfl | (simp; done) | (simp [*]; done) | (rw [Int.tmod_eq_emod_of_nonneg (Int.natCast_nonneg _)]; done)), (by first | exact H' | (have h_ := H'; (try simp only [← hji6] at h_); (try simp only [← hji6]); (try simp only [← hji7] at h_); (try simp only [← hji7]); exact h_)), ⟨by first | omega | exact Nat.le_refl _⟩, ⟨by (with_reducible repeat (first | apply Kd.R_alloc | apply Kd.R_drewN | apply Kd.R_drew)); exact HO125.out⟩, ⟨by repeat (first | (with_reducible first | exact HB.out | apply below_alloc | apply pw_below_drewN | apply below_drew1) | exact HB.out)⟩⟩
      case rest =>
        clear HC8
        try clear c1
        try clear p2
        try clear c3
        try clear c4
        try clear c5
        try clear c5b0
        try clear c5b1
        try clear p6
        try clear c12
        obtain ⟨kq, x20_7, rfl, HA, HJ7, HO_6, HB⟩ := hcut
        cases kq with
        | zero => exact absurd HA.out (by simp [spec_ExprOf.j0])
        | succ kj7 =>
          have H := HA.out
          clear HA
          simp only [spec_ExprOf.j0] at H
          by_cases c14 : x20_7 = true
          · subst c14
            have H1 : (some (y123, false)) = some (r1, r2) := by rw [if_pos rfl] at H; exact H
            clear H
            have H := H1
            clear H1
            simp only [Option.some.injEq, Prod.mk.injEq] at H
            obtain ⟨rfl, rfl⟩ := H
            go_wp2
            go_ret2
            exact ⟨_, by first | rfl | (simp [errW_none, errW_some] <;> rfl) | (simp only [← hji6, ← hji7]; first | rfl | (simp [errW_none, errW_some] <;> rfl)) | (simp [*, errW_none, errW_some] <;> rfl), by (with_reducible repeat (first | apply Kd.R_alloc | apply Kd.R_drewN | apply Kd.R_drew)); exact HO_6.out, by repeat (first | (with_reducible first | exact HB.out | apply below_alloc | apply pw_below_drewN | apply below_drew1) | exact HB.out)⟩
          · replace c14 := Bool.eq_false_iff.mpr c14
            subst c14
            have H1 : (if a0 = 0 then (some ((([(⟨2, 0, 0⟩ : S45)] : List (S45))), true)) else (if a0 = (wrap64 ((ji7) - 1)) then (some ((([(⟨1, 0, 0⟩ : S45)] : List (S45))), true)) else (spec_ExprOf.l0 kj7 a0 a1 y123 (([] : List (S45))) 0))) = some (r1, r2) := by rw [if_neg (show ¬ (false = true) by decide)] at H; exact H
            clear H
            have H := H1
            clear H1
            by_cases c15 : a0 = 0
            · rw [if_pos c15] at H
              have c15b0 : (a0 == 0) = true := beq_iff_eq.mpr c15
              have c15b1 : (a0 != 0) = false := bne_eq_false_iff_eq.mpr c15
              clear c15
              obtain ⟨y129, hy129⟩ : ∃ y_ : List (S45), y_ = (([(⟨2, 0, 0⟩ : S45)] : List (S45))) := ⟨_, rfl⟩
              replace H : (some (y129, true)) = some (r1, r2) := by first | (rw [hy129]; with_reducible exact H) | (have H2_ := (Option.bind_some _ _).symm.trans H; rw [hy129]; with_reducible exact H2_) | (have H2_ := (Option.bind_some _ _).symm.trans H; with_reducible exact H2_) | with_reducible exact H | (rw [hy129]; exact H) | exact H
              have Ny129 := Aside0.mk hy129
              clear hy129
              simp only [Option.some.injEq, Prod.mk.injEq] at H
              obtain ⟨rfl, rfl⟩ := H
              go_wp2_with (first | ((with_reducible refine gate_dst (N := 35) rfl ?_); refine Kd.R_lit k45 _ 45 ?hg (N := 35) ?hd (xs := ([(⟨2, 0, 0⟩ : S45)] : List (S45))) (inner := [.int .i64 2, .int .i64 0, .int .i64 0]) (ok := fun _ => True) (okp := fun _ => True) ?hr ?hp (fun _ hk => hk) trivial (Below.refl _ _) (Nat.le_refl _) (by simp) ?_; (case hd => rfl); (case hg => rfl); (case hr => first | (go_simp; done) | (go_simp; rfl)); (case hp => exact (Reps.c3 (show Kd.M k45 _ _ _ (⟨2, 0, 0⟩ : S45) [.int .i64 2, .int .i64 0, .int .i64 0] from (k45_mkM _ _ _ (⟨2, 0, 0⟩ : S45) )) (Reps.none _ _))); intro v130 w16 ho17 hb hg_ hnew_; clear hg_ hnew_; (first | rw [← Ny129.out] at ho17 | (simp only [Int.reduceToNat] at ho17; rw [← Ny129.out] at ho17)); have n0_ := Aside0.mk (Kd.R_elder' (by (with_reducible repeat (first | apply Kd.R_alloc | apply Kd.R_drewN | apply Kd.R_drew)); exact HO_6.out) (Kd.R_base ho17) hb); have n1_ := Aside0.mk (Kd.R_lower (Kd.R_new' ho17 (Kd.R_lt (by (with_reducible repeat (first | apply Kd.R_alloc | apply Kd.R_drewN | apply Kd.R_drew)); exact HO_6.out))) (below_size (by repeat (first | (with_reducible first | exact HB.out | apply below_alloc | apply pw_below_drewN | apply below_drew1) | exact HB.out)))); have n2_ := Aside0.mk (below_step (by repeat (first | (with_reducible first | exact HB.out | apply below_alloc | apply pw_below_drewN | apply below_drew1) | exact HB.out)) hb); clear HO_6; clear HB; have HO_6 := n0_; have HO131 := n1_; have HB := n2_; clear n0_ n1_ n2_; clear hb ho17))
              go_ret2
              exact ⟨_, by first | rfl | (simp [errW_none, errW_some] <;> rfl) | (simp only [← hji6, ← hji7]; first | rfl | (simp [errW_none, errW_some] <;> rfl)) | (simp [*, errW_none, errW_some] <;> rfl), by (with_reducible repeat (first | apply Kd.R_alloc | apply Kd.R_drewN | apply Kd.R_drew)); exact Kd.R_mono HO131.out (fun _ hk => trivial), by repeat (first | (with_reducible first | exact HB.out | apply below_alloc | apply pw_below_drewN | apply below_drew1) | exact HB.out)⟩
            · rw [if_neg c15] at H
              have c15b0 : (a0 == 0) = false := beq_eq_false_iff_ne.mpr c15
              have c15b1 : (a0 != 0) = true := bne_iff_ne.mpr c15
              by_cases c18 : a0 = (wrap64 ((ji7) - 1))
              · rw [if_pos c18] at H
                have c18b0 : (a0 == (wrap64 ((ji7) - 1))) = true := beq_iff_eq.mpr c18
                have c18b1 : (a0 != (wrap64 ((ji7) - 1))) = false := bne_eq_false_iff_eq.mpr c18
                clear c18
                obtain ⟨y132, hy132⟩ : ∃ y_ : List (S45), y_ = (([(⟨1, 0, 0⟩ : S45)] : List (S45))) := ⟨_, rfl⟩
                replace H : (some (y132, true)) = some (r1, r2) := by first | (rw [hy132]; with_reducible exact H) | (have H2_ := (Option.bind_some _ _).symm.trans H; rw [hy132]; with_reducible exact H2_) | (have H2_ := (Option.bind_some _ _).symm.trans H; with_reducible exact H2_) | with_reducible exact H | (rw [hy132]; exact H) | exact H
                have Ny132 := Aside0.mk hy132
                clear hy132
                simp only [Option.some.injEq, Prod.mk.injEq] at H
                obtain ⟨rfl, rfl⟩ := H
                go_wp2_with (first | ((with_reducible refine gate_dst (N := 41) rfl ?_); refine Kd.R_lit k45 _ 45 ?hg (N := 41) ?hd (xs := ([(⟨1, 0, 0⟩ : S45)] : List (S45))) (inner := [.int .i64 1, .int .i64 0, .int .i64 0]) (ok := fun _ => True) (okp := fun _ => True) ?hr ?hp (fun _ hk => hk) trivial (Below.refl _ _) (Nat.le_refl _) (by simp) ?_; (case hd => rfl); (case hg => rfl); (case hr => first | (go_simp; done) | (go_simp; rfl)); (case hp => exact (Reps.c3 (show Kd.M k45 _ _ _ (⟨1, 0, 0⟩ : S45) [.int .i64 1, .int .i64 0, .int .i64 0] from (k45_mkM _ _ _ (⟨1, 0, 0⟩ : S45) )) (Reps.none _ _))); intro v133 w19 ho20 hb hg_ hnew_; clear hg_ hnew_; (first | rw [← Ny132.out] at ho20 | (simp only [Int.reduceToNat] at ho20; rw [← Ny132.out] at ho20)); have n0_ := Aside0.mk (Kd.R_elder' (by (with_reducible repeat (first | apply Kd.R_alloc | apply Kd.R_drewN | apply Kd.R_drew)); exact HO_6.out) (Kd.R_base ho20) hb); have n1_ := Aside0.mk (Kd.R_lower (Kd.R_new' ho20 (Kd.R_lt (by (with_reducible repeat (first | apply Kd.R_alloc | apply Kd.R_drewN | apply Kd.R_drew)); exact HO_6.out))) (below_size (by repeat (first | (with_reducible first | exact HB.out | apply below_alloc | apply pw_below_drewN | apply below_drew1) | exact HB.out)))); have n2_ := Aside0.mk (below_step (by repeat (first | (with_reducible first | exact HB.out | apply below_alloc | apply pw_below_drewN | apply below_drew1) | exact HB.out)) hb); clear HO_6; clear HB; have HO_6 := n0_; have HO134 := n1_; have HB := n2_; clear n0_ n1_ n2_; clear hb ho20))
                go_ret2
                exact ⟨_, by first | rfl | (simp [errW_none, errW_some] <;> rfl) | (simp only [← hji6, ← hji7]; first | rfl | (simp [errW_none, errW_some] <;> rfl)) | (simp [*, errW_none, errW_some] <;> rfl), by (with_reducible repeat (first | apply Kd.R_alloc | apply Kd.R_drewN | apply Kd.R_drew)); exact Kd.R_mono HO134.out (fun _ hk => trivial), by repeat (first | (with_reducible first | exact HB.out | apply below_alloc | apply pw_below_drewN | apply below_drew1) | exact HB.out)⟩
              · rw [if_neg c18] at H
                have c18b0 : (a0 == (wrap64 ((ji7) - 1))) = false := beq_eq_false_iff_ne.mpr c18
                have c18b1 : (a0 != (wrap64 ((ji7) - 1))) = true := bne_iff_ne.mpr c18
                obtain ⟨y135, hy135⟩ : ∃ y_ : List (S45), y_ = (([] : List (S45))) := ⟨_, rfl⟩
                replace H : (spec_ExprOf.l0 kj7 a0 a1 y123 y135 0) = some (r1, r2) := by first | (rw [hy135]; with_reducible exact H) | (have H2_ := (Option.bind_some _ _).symm.trans H; rw [hy135]; with_reducible exact H2_) | (have H2_ := (Option.bind_some _ _).symm.trans H; with_reducible exact H2_) | with_reducible exact H | (rw [hy135]; exact H) | exact H
                have Ny135 := Aside0.mk hy135
                clear hy135
                have H' := Aside0.mk H
                clear H
                go_wp2_with (first | ((with_reducible refine gate_dst (N := 42) rfl ?_); refine Kd.R_lit k45 _ 45 ?hg (N := 42) ?hd (xs := ([] : List (S45))) (inner := []) (ok := fun _ => True) (okp := fun _ => True) ?hr ?hp (fun _ hk => hk) trivial (Below.refl _ _) (Nat.le_refl _) (by simp) ?_; (case hd => rfl); (case hg => rfl); (case hr => first | (go_simp; done) | (go_simp; rfl)); (case hp => exact (Reps.none _ _)); intro v136 w21 ho22 hb hg_ hnew_; clear hg_ hnew_; (first | rw [← Ny135.out] at ho22 | (simp only [Int.reduceToNat] at ho22; rw [← Ny135.out] at ho22)); have n0_ := Aside0.mk (Kd.R_elder' (by (with_reducible repeat (first | apply Kd.R_alloc | apply Kd.R_drewN | apply Kd.R_drew)); exact HO_6.out) (Kd.R_base ho22) hb); have n1_ := Aside0.mk (Kd.R_lower (Kd.R_new' ho22 (Kd.R_lt (by (with_reducible repeat (first | apply Kd.R_alloc | apply Kd.R_drewN | apply Kd.R_drew)); exact HO_6.out))) (below_size (by repeat (first | (with_reducible first | exact HB.out | apply below_alloc | apply pw_below_drewN | apply below_drew1) | exact HB.out)))); have n2_ := Aside0.mk (below_step (by repeat (first | (with_reducible first | exact HB.out | apply below_alloc | apply pw_below_drewN | apply below_drew1) | exact HB.out)) hb); clear HO_6; clear HB; have HO_6 := n0_; have HO137 := n1_; have HB := n2_; clear n0_ n1_ n2_; clear hb ho22))
                go_loopg [8, 9] kj7 (fun kq v8 v9 w' => ∃ (x8_2 : List (S45)) (x9_2 : Int), v9 = .int .i64 x9_2 ∧ Aside0 (spec_ExprOf.l0 kq a0 a1 y123 x8_2 x9_2 = some (r1, r2)) ∧ Aside0 (kq ≤ kj7) ∧ Aside0 (Kd.R k45 45 w' w.heap.size (fun k_ => some k_ ≠ (v8 : Value).ownBlock) v124 y123) ∧ Aside0 (Kd.R k45 45 w' w.heap.size (fun k_ => some k_ ≠ (v124 : Value).ownBlock) v8 x8_2) ∧ Aside0 (Below w.heap.size w w'))
                case atStart => exact ⟨(y135), (0), (by first | rfl | (simp; done) | (simp [*]; done) | (rw [Int.tmod_eq_emod_of_nonneg (Int.natCast_nonneg _)]; done)), H', ⟨Nat.le_refl _⟩, ⟨by (with_reducible repeat (first | apply Kd.R_alloc | apply Kd.R_drewN | apply Kd.R_drew)); exact Kd.R_mono HO_6.out (fun _ hk => hk.2)⟩, ⟨by (with_reducible repeat (first | apply Kd.R_alloc | apply Kd.R_drewN | apply Kd.R_drew)); exact Kd.R_mono HO137.out (fun _ hk => hk.2)⟩, ⟨by repeat (first | (with_reducible first | exact HB.out | apply below_alloc | apply pw_below_drewN | apply below_drew1) | exact HB.out)⟩⟩
                case round =>
                  clear H'
                  try clear c1
                  try clear p2
                  try clear c3
                  try clear c4
                  try clear c5
                  try clear c5b0
                  try clear c5b1
                  try clear p6
                  try clear c12
                  try clear c14
                  try clear c15
                  try clear c15b0
                  try clear c15b1
                  try clear c18
                  try clear c18b0
                  try clear c18b1
                  try clear p2
                  try clear p6
                  obtain ⟨x8_2, x9_2, rfl, HA, HK2, HO_6, HO_8, HB⟩ := hrel
                  cases gk with
                  | zero => exact absurd HA.out (by simp [spec_ExprOf.l0])
                  | succ k2 =>
                    have H := HA.out
                    clear HA
                    simp only [spec_ExprOf.l0] at H
                    by_cases c23 : 0 ≤ a1
                    · rw [if_pos c23] at H
                      have c23b0 := eq_true c23
                      have c23b1 : decide (0 ≤ a1) = true := decide_eq_true c23
                      clear c23
                      obtain ⟨ji24, hji24⟩ : ∃ j_ : Int, (shl .i64 1 a1) = j_ := ⟨_, rfl⟩
                      replace H : (if x9_2 < (ji24) then ((spec_l1Has.f a0 x9_2).bind fun t138 => (if t138 = true then ((spec_l2Product.f k2 x8_2 x9_2 a1).bind fun t139 => (if (wrap64 ((x8_2.length : Int) - 1)) ≥ 0 then (if t139.length < 5864062014805 then (spec_ExprOf.l0 k2 a0 a1 y123 (t139 ++ [(⟨6, wrap64 ((x8_2.length : Int) - 1), wrap64 ((t139.length : Int) - 1)⟩ : S45)]) (wrap64 (x9_2 + 1))) else (none)) else (spec_ExprOf.l0 k2 a0 a1 y123 t139 (wrap64 (x9_2 + 1))))) else (spec_ExprOf.l0 k2 a0 a1 y123 x8_2 (wrap64 (x9_2 + 1))))) else (if (x8_2.length : Int) > 31 then (some (y123, false)) else (some (x8_2, true)))) = some (r1, r2) := by first | (rw [hji24] at H; exact H) | (simp only [hji24] at H ⊢; exact H)
                      have hji24_ : (IntKind.i64.wrap (1 * 2 ^ min a1.toNat 64)) = ji24 := hji24
                      have hji24z : a1 ≤ 64 → (IntKind.i64.wrap (1 * 2 ^ a1.toNat)) = ji24 := shl_small hji24
                      have hji24u : (IntKind.i64.wrap (2 ^ min a1.toNat 64)) = ji24 := by have h_ := hji24_; rw [Int.one_mul] at h_; exact h_
                      have hji24v : a1 ≤ 64 → (IntKind.i64.wrap (2 ^ a1.toNat)) = ji24 := fun hle_ => by have h_ := hji24z hle_; rw [Int.one_mul] at h_; exact h_
                      have hji24y : (wrap64 (1 * 2 ^ min a1.toNat 64)) = ji24 := (i64_w _).symm.trans hji24_
                      have hji24x : a1 ≤ 64 → (wrap64 (1 * 2 ^ a1.toNat)) = ji24 := fun h_ => (i64_w _).symm.trans (hji24z h_)
                      by_cases c25 : x9_2 < (ji24)
                      · rw [if_pos c25] at H
                        have c25b0 : decide (x9_2 < (ji24)) = true := decide_eq_true c25
                        clear c25
                        replace H := Option.bind_eq_some_iff.mp H
                        obtain ⟨t138, A260, H⟩ := H
                        replace H : (if t138 = true then ((spec_l2Product.f k2 x8_2 x9_2 a1).bind fun t139 => (if (wrap64 ((x8_2.length : Int) - 1)) ≥ 0 then (if t139.length < 5864062014805 then (spec_ExprOf.l0 k2 a0 a1 y123 (t139 ++ [(⟨6, wrap64 ((x8_2.length : Int) - 1), wrap64 ((t139.length : Int) - 1)⟩ : S45)]) (wrap64 (x9_2 + 1))) else (none)) else (spec_ExprOf.l0 k2 a0 a1 y123 t139 (wrap64 (x9_2 + 1))))) else (spec_ExprOf.l0 k2 a0 a1 y123 x8_2 (wrap64 (x9_2 + 1)))) = some (r1, r2) := H
                        have A26 := Aside0.mk A260
                        clear A260
                        by_cases c27 : t138 = true
                        · subst c27
                          have H1 : ((spec_l2Product.f k2 x8_2 x9_2 a1).bind fun t139 => (if (wrap64 ((x8_2.length : Int) - 1)) ≥ 0 then (if t139.length < 5864062014805 then (spec_ExprOf.l0 k2 a0 a1 y123 (t139 ++ [(⟨6, wrap64 ((x8_2.length : Int) - 1), wrap64 ((t139.length : Int) - 1)⟩ : S45)]) (wrap64 (x9_2 + 1))) else (none)) else (spec_ExprOf.l0 k2 a0 a1 y123 t139 (wrap64 (x9_2 + 1))))) = some (r1, r2) := by rw [if_pos rfl] at H; exact H
                          clear H
                          have H := H1
                          clear H1
                          replace H := Option.bind_eq_some_iff.mp H
                          obtain ⟨t139, A280, H⟩ := H
                          replace H : (if (wrap64 ((x8_2.length : Int) - 1)) ≥ 0 then (if t139.length < 5864062014805 then (spec_ExprOf.l0 k2 a0 a1 y123 (t139 ++ [(⟨6, wrap64 ((x8_2.length : Int) - 1), wrap64 ((t139.length : Int) - 1)⟩ : S45)]) (wrap64 (x9_2 + 1))) else (none)) else (spec_ExprOf.l0 k2 a0 a1 y123 t139 (wrap64 (x9_2 + 1)))) = some (r1, r2) := H
                          have A28 := Aside0.mk A280
                          clear A280
                          by_cases c29 : (wrap64 ((x8_2.length : Int) - 1)) ≥ 0
                          · rw [if_pos c29] at H
                            have c29b0 : decide (0 ≤ (wrap64 ((x8_2.length : Int) - 1))) = true := decide_eq_true c29
                            clear c29
                            by_cases c30 : t139.length < 5864062014805
                            · rw [if_pos c30] at H
                              have LMc30 := Aside0.mk c30
                              clear c30
                              obtain ⟨y142, hy142⟩ : ∃ y_ : List (S45), y_ = (t139 ++ [(⟨6, wrap64 ((x8_2.length : Int) - 1), wrap64 ((t139.length : Int) - 1)⟩ : S45)]) := ⟨_, rfl⟩
                              replace H : (spec_ExprOf.l0 k2 a0 a1 y123 y142 (wrap64 (x9_2 + 1))) = some (r1, r2) := by first | (rw [hy142]; with_reducible exact H) | (have H2_ := (Option.bind_some _ _).symm.trans H; rw [hy142]; with_reducible exact H2_) | (have H2_ := (Option.bind_some _ _).symm.trans H; with_reducible exact H2_) | with_reducible exact H | (rw [hy142]; exact H) | exact H
                              have Ny142 := Aside0.mk hy142
                              clear hy142
                              have H' := Aside0.mk H
                              clear H
                              go_wp2_with (first | ((with_reducible refine gate_callee (f := 45) rfl ?_); refine goesL_ (some 51) rfl rfl Try.func45 (by kernel_rfl) rfl #[.int .i64 a0, .int .i64 x9_2] rfl (by (try simp only [List.map_toArray, List.map_cons, List.map_nil]); first | done | rfl | (simp only [List.length_drop, List.length_take]; rfl)) ?_; (with_reducible refine (spec_l1Has.calls a0 x9_2 true _ A26.out).mono ?_); rintro e w' ⟨rfl, ⟨nd, rfl⟩⟩; refine ⟨_, rfl, ?_⟩; obtain ⟨Ao31, co31, eo31⟩ := Kd.R_slice HO_8.out; subst eo31) | ((with_reducible refine gate_callee (f := 46) rfl ?_); refine goesL_ (some 59) rfl rfl Try.func46 (by kernel_rfl) rfl #[.slice Ao31 x8_2.length co31, .int .i64 x9_2, .int .i64 a1] rfl (by (try simp only [List.map_toArray, List.map_cons, List.map_nil]); first | done | rfl | (simp only [List.length_drop, List.length_take]; rfl)) ?_; (with_reducible refine (spec_l2Product.calls k2 (fun k_ => some k_ = (.slice Ao31 x8_2.length co31 : Value).ownBlock) (.slice Ao31 x8_2.length co31) x8_2 x9_2 a1 t139 w _ ?side1 ?side2 A28.out).mono ?_); (case side1 => repeat (first | (with_reducible first | exact HB.out | apply below_alloc | apply pw_below_drewN | apply below_drew1) | exact HB.out)); (case side2 => exact Kd.R_tight rfl HO_8.out); rintro e w32 ⟨v140, rfl, ho0, hb, hkp⟩; refine ⟨_, rfl, ?_⟩; have n0_ := Aside0.mk (Kd.R_mono (ok' := fun k_ => some k_ ≠ (v140 : Value).ownBlock) (Kd.R_keptB (HO_6.out) hkp (fun k_ hk_ hs_ => (hk_) hs_)) (fun k_ hk_ => fun e_ => Or.elim (ho0.1 k_ e_.symm) (fun hs_ => hk_.2.1 hs_) (fun hn_ => Nat.not_le.2 hk_.2.2 hn_))); have n1_ := Aside0.mk (Kd.R_mono (ok' := fun k_ => some k_ ≠ (v124 : Value).ownBlock) ho0 (fun k_ hk_ => Or.elim hk_ (fun hs_ => fun e_ => (((HO_6.out).1 k_ e_.symm)) hs_) (fun hn_ => (Kd.fresh' (Kd.R_lt (by (with_reducible repeat (first | apply Kd.R_alloc | apply Kd.R_drewN | apply Kd.R_drew)); exact HO_6.out)) k_ hn_)))); have n2_ := Aside0.mk (hb); clear HO_6; clear HB; clear HO_8; have HO_6 := n0_; have HO141 := n1_; have HB := n2_; clear n0_ n1_ n2_; (try clear hb); (try clear hkp); (try clear ho0); obtain ⟨Ao33, co33, eo33⟩ := Kd.R_slice HO141.out; subst eo33) | ((with_reducible refine gate_builtin (b := .append) (xs := #[.tmp 62, .tmp 68]) rfl ?_); at_builtin; refine Kd.R_append k45 (w0 := w) w.heap.size rfl (.tmp 62) (.tmp 68) 25 45 (.agg #[(.int .i64 0), (.int .i64 0), (.int .i64 0)]) 24 rfl Try.underlying25 info45 rfl (by decide) (by omega) (.slice Ao33 t139.length co33) t139 (⟨6, wrap64 ((x8_2.length : Int) - 1), wrap64 ((t139.length : Int) - 1)⟩ : S45) [.int .i64 6, .int .i64 (wrap64 ((x8_2.length : Int) - 1)), .int .i64 (wrap64 ((t139.length : Int) - 1))] (fun k_ => some k_ ≠ (v124 : Value).ownBlock) (fun _ => False) rfl rfl ?aP (fun _ hk => hk.elim) ?aF ?aO ?aB ?aS ?aL ?_; (case aP => exact k45_mkM _ _ _ (⟨6, wrap64 ((x8_2.length : Int) - 1), wrap64 ((t139.length : Int) - 1)⟩ : S45)); (case aB => exact (by repeat (first | (with_reducible first | exact HB.out | apply below_alloc | apply pw_below_drewN | apply below_drew1) | exact HB.out))); (case aF => exact (fun k_ hk => Kd.fresh' (Kd.R_lt (by (with_reducible repeat (first | apply Kd.R_alloc | apply Kd.R_drewN | apply Kd.R_drew)); exact HO_6.out)) k_ hk)); (case aO => exact (by (with_reducible repeat (first | apply Kd.R_alloc | apply Kd.R_drewN | apply Kd.R_drew)); exact HO141.out)); (case aS => exact (below_size (by repeat (first | (with_reducible first | exact HB.out | apply below_alloc | apply pw_below_drewN | apply below_drew1) | exact HB.out)))); (case aL => have := LMc30.out; omega); intro v143 w34 ho hb hg hat; rw [← Ny142.out] at ho; have n0_ := Aside0.mk (Kd.R_after (ok := (fun _ => True)) (by (with_reducible repeat (first | apply Kd.R_alloc | apply Kd.R_drewN | apply Kd.R_drew)); exact Kd.R_mono HO_6.out (fun _ hk => ⟨trivial, hk⟩)) hg hat); have n1_ := Aside0.mk (hb); have n2_ := Aside0.mk (ho); clear HO_6; clear HB; clear HO141; have HO_6 := n0_; have HB := n1_; have HO144 := n2_; clear n0_ n1_ n2_; clear ho hb hg hat))
                              (first | go_roundg k2 | ((try simp only [← hji6]); (try simp only [← hji7]); (try simp only [← hji24]); go_roundg k2))
                              case measure => have := HJ7.out; have := HK2.out; omega
                              case rel => exact ⟨(y142), (wrap64 (x9_2 + 1)), (by first | rfl | (simp; done) | (simp [*]; done) | (rw [Int.tmod_eq_emod_of_nonneg (Int.natCast_nonneg _)]; done)), (by first | exact H' | (have h_ := H'; (try simp only [← hji6] at h_); (try simp only [← hji6]); (try simp only [← hji7] at h_); (try simp only [← hji7]); (try simp only [← hji24] at h_); (try simp only [← hji24]); exact h_)), ⟨by have := HJ7.out; have := HK2.out; omega⟩, ⟨by (with_reducible repeat (first | apply Kd.R_alloc | apply Kd.R_drewN | apply Kd.R_drew)); exact Kd.R_mono HO_6.out (fun _ hk => hk.2)⟩, ⟨by (with_reducible repeat (first | apply Kd.R_alloc | apply Kd.R_drewN | apply Kd.R_drew)); exact HO144.out⟩, ⟨by repeat (first | (with_reducible first | exact HB.out | apply below_alloc | apply pw_below_drewN | apply below_drew1) | exact HB.out)⟩⟩
                            · rw [if_neg c30] at H
                              exact absurd H (by simp)
                          · rw [if_neg c29] at H
                            have c29b0 : decide (0 ≤ (wrap64 ((x8_2.length : Int) - 1))) = false := decide_eq_false c29
                            clear c29
                            have H' := Aside0.mk H
                            clear H
                            go_wp2_with (first | ((with_reducible refine gate_callee (f := 45) rfl ?_); refine goesL_ (some 51) rfl rfl Try.func45 (by kernel_rfl) rfl #[.int .i64 a0, .int .i64 x9_2] rfl (by (try simp only [List.map_toArray, List.map_cons, List.map_nil]); first | done | rfl | (simp only [List.length_drop, List.length_take]; rfl)) ?_; (with_reducible refine (spec_l1Has.calls a0 x9_2 true _ A26.out).mono ?_); rintro e w' ⟨rfl, ⟨nd, rfl⟩⟩; refine ⟨_, rfl, ?_⟩; obtain ⟨Ao35, co35, eo35⟩ := Kd.R_slice HO_8.out; subst eo35) | ((with_reducible refine gate_callee (f := 46) rfl ?_); refine goesL_ (some 59) rfl rfl Try.func46 (by kernel_rfl) rfl #[.slice Ao35 x8_2.length co35, .int .i64 x9_2, .int .i64 a1] rfl (by (try simp only [List.map_toArray, List.map_cons, List.map_nil]); first | done | rfl | (simp only [List.length_drop, List.length_take]; rfl)) ?_; (with_reducible refine (spec_l2Product.calls k2 (fun k_ => some k_ = (.slice Ao35 x8_2.length co35 : Value).ownBlock) (.slice Ao35 x8_2.length co35) x8_2 x9_2 a1 t139 w _ ?side1 ?side2 A28.out).mono ?_); (case side1 => repeat (first | (with_reducible first | exact HB.out | apply below_alloc | apply pw_below_drewN | apply below_drew1) | exact HB.out)); (case side2 => exact Kd.R_tight rfl HO_8.out); rintro e w36 ⟨v140, rfl, ho0, hb, hkp⟩; refine ⟨_, rfl, ?_⟩; have n0_ := Aside0.mk (Kd.R_mono (ok' := fun k_ => some k_ ≠ (v140 : Value).ownBlock) (Kd.R_keptB (HO_6.out) hkp (fun k_ hk_ hs_ => (hk_) hs_)) (fun k_ hk_ => fun e_ => Or.elim (ho0.1 k_ e_.symm) (fun hs_ => hk_.2.1 hs_) (fun hn_ => Nat.not_le.2 hk_.2.2 hn_))); have n1_ := Aside0.mk (Kd.R_mono (ok' := fun k_ => some k_ ≠ (v124 : Value).ownBlock) ho0 (fun k_ hk_ => Or.elim hk_ (fun hs_ => fun e_ => (((HO_6.out).1 k_ e_.symm)) hs_) (fun hn_ => (Kd.fresh' (Kd.R_lt (by (with_reducible repeat (first | apply Kd.R_alloc | apply Kd.R_drewN | apply Kd.R_drew)); exact HO_6.out)) k_ hn_)))); have n2_ := Aside0.mk (hb); clear HO_6; clear HB; clear HO_8; have HO_6 := n0_; have HO141 := n1_; have HB := n2_; clear n0_ n1_ n2_; (try clear hb); (try clear hkp); (try clear ho0)))
                            (first | go_roundg k2 | ((try simp only [← hji6]); (try simp only [← hji7]); (try simp only [← hji24]); go_roundg k2))
                            case measure => have := HJ7.out; have := HK2.out; omega
                            case rel => exact ⟨(t139), (wrap64 (x9_2 + 1)), (by first | rfl | (simp; done) | (simp [*]; done) | (rw [Int.tmod_eq_emod_of_nonneg (Int.natCast_nonneg _)]; done)), (by first | exact H' | (have h_ := H'; (try simp only [← hji6] at h_); (try simp only [← hji6]); (try simp only [← hji7] at h_); (try simp only [← hji7]); (try simp only [← hji24] at h_); (try simp only [← hji24]); exact h_)), ⟨by have := HJ7.out; have := HK2.out; omega⟩, ⟨by (with_reducible repeat (first | apply Kd.R_alloc | apply Kd.R_drewN | apply Kd.R_drew)); exact HO_6.out⟩, ⟨by (with_reducible repeat (first | apply Kd.R_alloc | apply Kd.R_drewN | apply Kd.R_drew)); exact HO141.out⟩, ⟨by repeat (first | (with_reducible first | exact HB.out | apply below_alloc | apply pw_below_drewN | apply below_drew1) | exact HB.out)⟩⟩
                        · replace c27 := Bool.eq_false_iff.mpr c27
                          subst c27
                          have H1 : (spec_ExprOf.l0 k2 a0 a1 y123 x8_2 (wrap64 (x9_2 + 1))) = some (r1, r2) := by rw [if_neg (show ¬ (false = true) by decide)] at H; exact H
                          clear H
                          have H := H1
                          clear H1
                          have H' := Aside0.mk H
                          clear H
                          go_wp2_with (first | ((with_reducible refine gate_callee (f := 45) rfl ?_); refine goesL_ (some 51) rfl rfl Try.func45 (by kernel_rfl) rfl #[.int .i64 a0, .int .i64 x9_2] rfl (by (try simp only [List.map_toArray, List.map_cons, List.map_nil]); first | done | rfl | (simp only [List.length_drop, List.length_take]; rfl)) ?_; (with_reducible refine (spec_l1Has.calls a0 x9_2 false _ A26.out).mono ?_); rintro e w' ⟨rfl, ⟨nd, rfl⟩⟩; refine ⟨_, rfl, ?_⟩))
                          (first | go_roundg k2 | ((try simp only [← hji6]); (try simp only [← hji7]); (try simp only [← hji24]); go_roundg k2))
                          case measure => have := HJ7.out; have := HK2.out; omega
                          case rel => exact ⟨(x8_2), (wrap64 (x9_2 + 1)), (by first | rfl | (simp; done) | (simp [*]; done) | (rw [Int.tmod_eq_emod_of_nonneg (Int.natCast_nonneg _)]; done)), (by first | exact H' | (have h_ := H'; (try simp only [← hji6] at h_); (try simp only [← hji6]); (try simp only [← hji7] at h_); (try simp only [← hji7]); (try simp only [← hji24] at h_); (try simp only [← hji24]); exact h_)), ⟨by have := HJ7.out; have := HK2.out; omega⟩, ⟨by (with_reducible repeat (first | apply Kd.R_alloc | apply Kd.R_drewN | apply Kd.R_drew)); exact HO_6.out⟩, ⟨by (with_reducible repeat (first | apply Kd.R_alloc | apply Kd.R_drewN | apply Kd.R_drew)); exact HO_8.out⟩, ⟨by repeat (first | (with_reducible first | exact HB.out | apply below_alloc | apply pw_below_drewN | apply below_drew1) | exact HB.out)⟩⟩
                      · rw [if_neg c25] at H
                        have c25b0 : decide (x9_2 < (ji24)) = false := decide_eq_false c25
                        clear c25
                        by_cases c37 : (x8_2.length : Int) > 31
                        · rw [if_pos c37] at H
                          have c37b0 : decide (31 < (x8_2.length : Int)) = true := decide_eq_true c37
                          have c37b1 : decide (31 < x8_2.length) = true := decide_eq_true (by omega)
                          clear c37
                          simp only [Option.some.injEq, Prod.mk.injEq] at H
                          obtain ⟨rfl, rfl⟩ := H
                          obtain ⟨Ao38, co38, eo38⟩ := Kd.R_slice HO_8.out
                          subst eo38
                          go_wp2
                          go_ret2
                          exact ⟨_, by first | rfl | (simp [errW_none, errW_some] <;> rfl) | (simp only [← hji6, ← hji7, ← hji24]; first | rfl | (simp [errW_none, errW_some] <;> rfl)) | (simp [*, errW_none, errW_some] <;> rfl), by (with_reducible repeat (first | apply Kd.R_alloc | apply Kd.R_drewN | apply Kd.R_drew)); exact Kd.R_mono HO_6.out (fun _ hk => trivial), by repeat (first | (with_reducible first | exact HB.out | apply below_alloc | apply pw_below_drewN | apply below_drew1) | exact HB.out)⟩
                        · rw [if_neg c37] at H
                          have c37b0 : decide (31 < (x8_2.length : Int)) = false := decide_eq_false c37
                          have c37b1 : decide (31 < x8_2.length) = false := decide_eq_false (by omega)
                          clear c37
                          simp only [Option.some.injEq, Prod.mk.injEq] at H
                          obtain ⟨rfl, rfl⟩ := H
                          obtain ⟨Ao39, co39, eo39⟩ := Kd.R_slice HO_8.out
                          subst eo39
                          go_wp2
                          go_ret2
                          exact ⟨_, by first | rfl | (simp [errW_none, errW_some] <;> rfl) | (simp only [← hji6, ← hji7, ← hji24]; first | rfl | (simp [errW_none, errW_some] <;> rfl)) | (simp [*, errW_none, errW_some] <;> rfl), by (with_reducible repeat (first | apply Kd.R_alloc | apply Kd.R_drewN | apply Kd.R_drew)); exact Kd.R_mono HO_8.out (fun _ hk => trivial), by repeat (first | (with_reducible first | exact HB.out | apply below_alloc | apply pw_below_drewN | apply below_drew1) | exact HB.out)⟩
                    · rw [if_neg c23] at H
                      exact absurd H (by simp)
    · rw [if_neg c5] at H
      exact absurd H (by simp)
  · replace c4 := Bool.eq_false_iff.mpr c4
    subst c4
    have H1 : (some (y123, false)) = some (r1, r2) := by rw [if_neg (show ¬ (false = true) by decide)] at H; exact H
    clear H
    have H := H1
    clear H1
    simp only [Option.some.injEq, Prod.mk.injEq] at H
    obtain ⟨rfl, rfl⟩ := H
    go_enter Try.func18, Try.ntmps18
    go_wp2_with (first | ((with_reducible refine gate_dst (N := 11) rfl ?_); refine Kd.R_lit k45 _ 45 ?hg (N := 11) ?hd (xs := ([] : List (S45))) (inner := []) (ok := fun _ => True) (okp := fun _ => True) ?hr ?hp (fun _ hk => hk) trivial (Below.refl _ _) (Nat.le_refl _) (by simp) ?_; (case hd => rfl); (case hg => rfl); (case hr => first | (go_simp; done) | (go_simp; rfl)); (case hp => exact (Reps.none _ _)); intro v124 w40 ho41 hb hg_ hnew_; clear hg_ hnew_; (first | rw [← Ny123.out] at ho41 | (simp only [Int.reduceToNat] at ho41; rw [← Ny123.out] at ho41)); have n0_ := Aside0.mk (Kd.R_lower ho41 (below_size (by repeat (first | (with_reducible first | exact HB.out | apply below_alloc | apply pw_below_drewN | apply below_drew1) | exact HB.out)))); have n1_ := Aside0.mk (below_step (by repeat (first | (with_reducible first | exact HB.out | apply below_alloc | apply pw_below_drewN | apply below_drew1) | exact HB.out)) hb); clear HB; have HO125 := n0_; have HB := n1_; clear n0_ n1_; clear hb ho41) | ((with_reducible refine gate_callee (f := 33) rfl ?_); refine goesL_ (some 13) rfl rfl Try.func33 (by kernel_rfl) rfl #[.int .i64 a1, .int .i64 0, .int .i64 3] rfl (by (try simp only [List.map_toArray, List.map_cons, List.map_nil]); first | done | rfl | (simp only [List.length_drop, List.length_take]; rfl)) ?_; (with_reducible refine (spec_l1In.calls a1 0 3 false _ A3.out).mono ?_); rintro e w' ⟨rfl, ⟨nd, rfl⟩⟩; refine ⟨_, rfl, ?_⟩))
    go_ret2
    exact ⟨_, by first | rfl | (simp [errW_none, errW_some] <;> rfl) | (simp [*, errW_none, errW_some] <;> rfl), by (with_reducible repeat (first | apply Kd.R_alloc | apply Kd.R_drewN | apply Kd.R_drew)); exact HO125.out, by repeat (first | (with_reducible first | exact HB.out | apply below_alloc | apply pw_below_drewN | apply below_drew1) | exact HB.out)⟩

/-! ### impl_inRange: function 68 -/
def impl_inRange.f (a0 : Int) (a1 : Int) (a2 : Int) : Option (Bool) := if a0 ≥ a1 then (some (decide (a0 ≤ a2))) else (some false)
set_option maxHeartbeats 8000000 in
set_option maxRecDepth 100000 in
theorem impl_inRange.calls (a0 : Int) (a1 : Int) (a2 : Int) (r : Bool) (w : World) (h : impl_inRange.f a0 a1 a2 = some r) :
    Calls Try.prog 68 #[.int .i64 a0, .int .i64 a1, .int .i64 a2] w fun e w' => e = .returned (.bool r) ∧ Drawn0 w w' := by
  have H : (if a0 ≥ a1 then (some (decide (a0 ≤ a2))) else (some false)) = some r := h
  clear h
  by_cases c4 : a0 ≥ a1
  · rw [if_pos c4] at H
    have c4b0 : decide (a1 ≤ a0) = true := decide_eq_true c4
    clear c4
    obtain rfl := Option.some.inj H
    go_enter Try.func68, Try.ntmps68
    go_wp2
    go_ret
    exact ⟨by first | rfl | (simp; done) | (simp [*]; done), by repeat (first | exact Drawn0.refl _ | apply Drawn0.step)⟩
  · rw [if_neg c4] at H
    have c4b0 : decide (a1 ≤ a0) = false := decide_eq_false c4
    clear c4
    obtain rfl := Option.some.inj H
    go_enter Try.func68, Try.ntmps68
    go_wp2
    go_ret
    exact ⟨by first | rfl | (simp; done) | (simp [*]; done), by repeat (first | exact Drawn0.refl _ | apply Drawn0.step)⟩

/-! ### impl_isProps: function 47 -/
def impl_isProps.f (a0 : Int) : Option (Bool) := (impl_inRange.f a0 0 3).bind fun t145 => (some t145)
set_option maxHeartbeats 8000000 in
set_option maxRecDepth 100000 in
theorem impl_isProps.calls (a0 : Int) (r : Bool) (w : World) (h : impl_isProps.f a0 = some r) :
    Calls Try.prog 47 #[.int .i64 a0] w fun e w' => e = .returned (.bool r) ∧ Drawn0 w w' := by
  have H : ((impl_inRange.f a0 0 3).bind fun t145 => (some t145)) = some r := h
  clear h
  replace H := Option.bind_eq_some_iff.mp H
  obtain ⟨t145, A20, H⟩ := H
  replace H : (some t145) = some r := H
  have A2 := Aside0.mk A20
  clear A20
  obtain rfl := Option.some.inj H
  go_enter Try.func47, Try.ntmps47
  go_wp2_with (first | ((with_reducible refine gate_callee (f := 68) rfl ?_); refine goesL_ (some 4) rfl rfl Try.func68 (by kernel_rfl) rfl #[.int .i64 a0, .int .i64 0, .int .i64 3] rfl (by (try simp only [List.map_toArray, List.map_cons, List.map_nil]); first | done | rfl | (simp only [List.length_drop, List.length_take]; rfl)) ?_; (with_reducible refine (impl_inRange.calls a0 0 3 t145 _ A2.out).mono ?_); rintro e w' ⟨rfl, ⟨nd, rfl⟩⟩; refine ⟨_, rfl, ?_⟩))
  go_ret
  exact ⟨by first | rfl | (simp; done) | (simp [*]; done), by repeat (first | exact Drawn0.refl _ | apply Drawn0.step)⟩

/-! ### impl_SetOk: function 48 -/
def impl_SetOk.f (a0 : Int) : Option (Bool) := (impl_inRange.f a0 0 2147483647).bind fun t146 => (some t146)
set_option maxHeartbeats 8000000 in
set_option maxRecDepth 100000 in
theorem impl_SetOk.calls (a0 : Int) (r : Bool) (w : World) (h : impl_SetOk.f a0 = some r) :
    Calls Try.prog 48 #[.int .i64 a0] w fun e w' => e = .returned (.bool r) ∧ Drawn0 w w' := by
  have H : ((impl_inRange.f a0 0 2147483647).bind fun t146 => (some t146)) = some r := h
  clear h
  replace H := Option.bind_eq_some_iff.mp H
  obtain ⟨t146, A20, H⟩ := H
  replace H : (some t146) = some r := H
  have A2 := Aside0.mk A20
  clear A20
  obtain rfl := Option.some.inj H
  go_enter Try.func48, Try.ntmps48
  go_wp2_with (first | ((with_reducible refine gate_callee (f := 68) rfl ?_); refine goesL_ (some 4) rfl rfl Try.func68 (by kernel_rfl) rfl #[.int .i64 a0, .int .i64 0, .int .i64 2147483647] rfl (by (try simp only [List.map_toArray, List.map_cons, List.map_nil]); first | done | rfl | (simp only [List.length_drop, List.length_take]; rfl)) ?_; (with_reducible refine (impl_inRange.calls a0 0 2147483647 t146 _ A2.out).mono ?_); rintro e w' ⟨rfl, ⟨nd, rfl⟩⟩; refine ⟨_, rfl, ?_⟩))
  go_ret
  exact ⟨by first | rfl | (simp; done) | (simp [*]; done), by repeat (first | exact Drawn0.refl _ | apply Drawn0.step)⟩

/-! ### impl_only: function 49 -/
def impl_only.f (a0 : Int) : Option (Int) := if 0 ≤ (IntKind.u64.wrap (a0)) then (some (shl .i64 1 (IntKind.u64.wrap (a0)))) else (none)
set_option maxHeartbeats 8000000 in
set_option maxRecDepth 100000 in
theorem impl_only.calls (a0 : Int) (r : Int) (w : World) (h : impl_only.f a0 = some r) :
    Calls Try.prog 49 #[.int .i64 a0] w fun e w' => e = .returned (.int .i64 r) ∧ Drawn0 w w' := by
  have H : (if 0 ≤ (IntKind.u64.wrap (a0)) then (some (shl .i64 1 (IntKind.u64.wrap (a0)))) else (none)) = some r := h
  clear h
  obtain ⟨ji2, hji2⟩ : ∃ j_ : Int, (IntKind.u64.wrap (a0)) = j_ := ⟨_, rfl⟩
  replace H : (if 0 ≤ (ji2) then (some (shl .i64 1 (ji2))) else (none)) = some r := by first | (rw [hji2] at H; exact H) | (simp only [hji2] at H ⊢; exact H)
  by_cases c3 : 0 ≤ (ji2)
  · rw [if_pos c3] at H
    have c3b0 := eq_true c3
    have c3b1 : decide (0 ≤ (ji2)) = true := decide_eq_true c3
    clear c3
    obtain ⟨ji4, hji4⟩ : ∃ j_ : Int, (shl .i64 1 (ji2)) = j_ := ⟨_, rfl⟩
    replace H : (some ji4) = some r := by first | (rw [hji4] at H; exact H) | (simp only [hji4] at H ⊢; exact H)
    have hji4_ : (IntKind.i64.wrap (1 * 2 ^ min (ji2).toNat 64)) = ji4 := hji4
    have hji4z : (ji2) ≤ 64 → (IntKind.i64.wrap (1 * 2 ^ (ji2).toNat)) = ji4 := shl_small hji4
    have hji4u : (IntKind.i64.wrap (2 ^ min (ji2).toNat 64)) = ji4 := by have h_ := hji4_; rw [Int.one_mul] at h_; exact h_
    have hji4v : (ji2) ≤ 64 → (IntKind.i64.wrap (2 ^ (ji2).toNat)) = ji4 := fun hle_ => by have h_ := hji4z hle_; rw [Int.one_mul] at h_; exact h_
    have hji4y : (wrap64 (1 * 2 ^ min (ji2).toNat 64)) = ji4 := (i64_w _).symm.trans hji4_
    have hji4x : (ji2) ≤ 64 → (wrap64 (1 * 2 ^ (ji2).toNat)) = ji4 := fun h_ => (i64_w _).symm.trans (hji4z h_)
    obtain rfl := Option.some.inj H
    go_enter Try.func49, Try.ntmps49
    go_wp2
    go_ret
    exact ⟨by first | rfl | (simp; done) | (simp only [← hji2, ← hji4] <;> (first | rfl | simp)) | (simp [*]; done), by repeat (first | exact Drawn0.refl _ | apply Drawn0.step)⟩
  · rw [if_neg c3] at H
    exact absurd H (by simp)

/-! ### impl_has: function 69 -/
def impl_has.f (a0 : Int) (a1 : Int) : Option (Bool) := if 0 ≤ (IntKind.u64.wrap (a1)) then (some ((Go.bits .and .i64 (shr .i64 a0 (IntKind.u64.wrap (a1))) 1) == 1)) else (none)
set_option maxHeartbeats 8000000 in
set_option maxRecDepth 100000 in
theorem impl_has.calls (a0 : Int) (a1 : Int) (r : Bool) (w : World) (h : impl_has.f a0 a1 = some r) :
    Calls Try.prog 69 #[.int .i64 a0, .int .i64 a1] w fun e w' => e = .returned (.bool r) ∧ Drawn0 w w' := by
  have H : (if 0 ≤ (IntKind.u64.wrap (a1)) then (some ((Go.bits .and .i64 (shr .i64 a0 (IntKind.u64.wrap (a1))) 1) == 1)) else (none)) = some r := h
  clear h
  obtain ⟨ji3, hji3⟩ : ∃ j_ : Int, (IntKind.u64.wrap (a1)) = j_ := ⟨_, rfl⟩
  replace H : (if 0 ≤ (ji3) then (some ((Go.bits .and .i64 (shr .i64 a0 (ji3)) 1) == 1)) else (none)) = some r := by first | (rw [hji3] at H; exact H) | (simp only [hji3] at H ⊢; exact H)
  by_cases c4 : 0 ≤ (ji3)
  · rw [if_pos c4] at H
    have c4b0 := eq_true c4
    have c4b1 : decide (0 ≤ (ji3)) = true := decide_eq_true c4
    clear c4
    obtain ⟨ji5, hji5⟩ : ∃ j_ : Int, (shr .i64 a0 (ji3)) = j_ := ⟨_, rfl⟩
    replace H : (some ((Go.bits .and .i64 (ji5) 1) == 1)) = some r := by first | (rw [hji5] at H; exact H) | (simp only [hji5] at H ⊢; exact H)
    have hji5_ : (a0 / 2 ^ min (ji3).toNat 64) = ji5 := hji5
    have hji5z : (ji3) ≤ 64 → (a0 / 2 ^ (ji3).toNat) = ji5 := shr_small hji5
    obtain rfl := Option.some.inj H
    go_enter Try.func69, Try.ntmps69
    go_wp2
    go_ret
    exact ⟨by first | rfl | (simp; done) | (simp only [← hji3, ← hji5] <;> (first | rfl | simp)) | (simp [*]; done), by repeat (first | exact Drawn0.refl _ | apply Drawn0.step)⟩
  · rw [if_neg c4] at H
    exact absurd H (by simp)

/-! ### impl_SetList: function 50 -/
def impl_SetList.l0 : Nat → Int → List Int → Int → Option (List Int)
  | 0, _, _, _ => none
  | k + 1, x0, x3, x8 => if x8 < 31 then ((impl_has.f x0 x8).bind fun t148 => (if t148 = true then (if x3.length < 17592186044416 then (impl_SetList.l0 k x0 (x3 ++ [x8]) (wrap64 (x8 + 1))) else (none)) else (impl_SetList.l0 k x0 x3 (wrap64 (x8 + 1))))) else (some x3)
def impl_SetList.f (k : Nat) (a0 : Int) : Option (List Int) := (impl_SetOk.f a0).bind fun t147 => (if t147 = true then (impl_SetList.l0 k a0 ([] : List Int) 0) else (some ([] : List Int)))
theorem impl_SetList.mono_l : ∀ k, (∀ y0 y1 y2, LeO (impl_SetList.l0 k y0 y1 y2) (impl_SetList.l0 (k + 1) y0 y1 y2))
  | 0 => fun _ _ _ r h => by simp [impl_SetList.l0] at h
  | k + 1 => by
    have ih0 := impl_SetList.mono_l k
    · intro y0 y1 y2
      unfold impl_SetList.l0
      repeat' first
      | (with_reducible exact ih0 _ _ _)
      | (with_reducible exact LeO.refl _)
      | (with_reducible exact LeO.none _)
      | (with_reducible refine LeO.ite ?_ ?_)
      | (with_reducible refine LeO.bind ?_ (fun _ => ?_))
      | exact ih0 _ _ _
      | exact LeO.none _
      | refine LeO.ite ?_ ?_
      | refine LeO.bind ?_ (fun _ => ?_)
theorem impl_SetList.mono : ∀ a0 k, LeO (impl_SetList.f k a0) (impl_SetList.f (k + 1) a0) := by
  intro a0 k
  have ih0 := impl_SetList.mono_l k
  unfold impl_SetList.f
  repeat' first
      | (with_reducible exact ih0 _ _ _)
      | (with_reducible exact LeO.refl _)
      | (with_reducible exact LeO.none _)
      | (with_reducible refine LeO.ite ?_ ?_)
      | (with_reducible refine LeO.bind ?_ (fun _ => ?_))
      | exact ih0 _ _ _
      | exact LeO.none _
      | refine LeO.ite ?_ ?_
      | refine LeO.bind ?_ (fun _ => ?_)
set_option maxHeartbeats 8000000 in
set_option maxRecDepth 100000 in
theorem impl_SetList.calls (k : Nat) (a0 : Int) (r : List Int) (w : World) (h : impl_SetList.f k a0 = some r) :
    Calls Try.prog 50 #[.int .i64 a0] w fun e w' => ∃ v0_ : Value, e = .returned (v0_) ∧ Kd.R (Kd.int .i64) 3 w' w.heap.size (fun _ => True) v0_ r ∧ Below w.heap.size w w' := by
  have HB := Aside0.mk (Below.refl w.heap.size w)
  have H : ((impl_SetOk.f a0).bind fun t147 => (if t147 = true then (impl_SetList.l0 k a0 ([] : List Int) 0) else (some ([] : List Int)))) = some r := h
  clear h
  replace H := Option.bind_eq_some_iff.mp H
  obtain ⟨t147, A20, H⟩ := H
  replace H : (if t147 = true then (impl_SetList.l0 k a0 ([] : List Int) 0) else (some ([] : List Int))) = some r := H
  have A2 := Aside0.mk A20
  clear A20
  by_cases c3 : t147 = true
  · subst c3
    have H1 : (impl_SetList.l0 k a0 ([] : List Int) 0) = some r := by rw [if_pos rfl] at H; exact H
    clear H
    have H := H1
    clear H1
    have H' := Aside0.mk H
    clear H
    go_enter Try.func50, Try.ntmps50
    go_wp2_with (first | ((with_reducible refine gate_callee (f := 48) rfl ?_); refine goesL_ (some 6) rfl rfl Try.func48 (by kernel_rfl) rfl #[.int .i64 a0] rfl (by (try simp only [List.map_toArray, List.map_cons, List.map_nil]); first | done | rfl | (simp only [List.length_drop, List.length_take]; rfl)) ?_; (with_reducible refine (impl_SetOk.calls a0 true _ A2.out).mono ?_); rintro e w' ⟨rfl, ⟨nd, rfl⟩⟩; refine ⟨_, rfl, ?_⟩))
    go_loopg [3, 8] k (fun kq v3 v8 w' => ∃ (x3_1 : List Int) (x8_1 : Int), v8 = .int .i64 x8_1 ∧ Aside0 (impl_SetList.l0 kq a0 x3_1 x8_1 = some r) ∧ Aside0 (kq ≤ k) ∧ Aside0 (Kd.R (Kd.int .i64) 3 w' w.heap.size (fun _ => True) v3 x3_1) ∧ Aside0 (Below w.heap.size w w'))
    case atStart => exact ⟨(([] : List Int)), (0), (by first | rfl | (simp; done) | (simp [*]; done) | (rw [Int.tmod_eq_emod_of_nonneg (Int.natCast_nonneg _)]; done)), H', ⟨Nat.le_refl _⟩, ⟨by first | exact Kd.R_nil _ _ _ _ _ | exact Kd.N_nil _ _ _ _ _ | exact Kd.V_nil _ _ _ _ _ | exact Kd.Q_nil _ _ _ _ _ | exact Kd.S_nil _ _ _ _ _⟩, ⟨by repeat (first | (with_reducible first | exact HB.out | apply below_alloc | apply pw_below_drewN | apply below_drew1) | exact HB.out)⟩⟩
    case round =>
      clear H'
      try clear p2
      try clear c3
      obtain ⟨x3_1, x8_1, rfl, HA, HK1, HO_3, HB⟩ := hrel
      cases gk with
      | zero => exact absurd HA.out (by simp [impl_SetList.l0])
      | succ k1 =>
        have H := HA.out
        clear HA
        simp only [impl_SetList.l0] at H
        by_cases c4 : x8_1 < 31
        · rw [if_pos c4] at H
          have c4b0 : decide (x8_1 < 31) = true := decide_eq_true c4
          clear c4
          replace H := Option.bind_eq_some_iff.mp H
          obtain ⟨t148, A50, H⟩ := H
          replace H : (if t148 = true then (if x3_1.length < 17592186044416 then (impl_SetList.l0 k1 a0 (x3_1 ++ [x8_1]) (wrap64 (x8_1 + 1))) else (none)) else (impl_SetList.l0 k1 a0 x3_1 (wrap64 (x8_1 + 1)))) = some r := H
          have A5 := Aside0.mk A50
          clear A50
          by_cases c6 : t148 = true
          · subst c6
            have H1 : (if x3_1.length < 17592186044416 then (impl_SetList.l0 k1 a0 (x3_1 ++ [x8_1]) (wrap64 (x8_1 + 1))) else (none)) = some r := by rw [if_pos rfl] at H; exact H
            clear H
            have H := H1
            clear H1
            by_cases c7 : x3_1.length < 17592186044416
            · rw [if_pos c7] at H
              have LMc7 := Aside0.mk c7
              clear c7
              obtain ⟨y149, hy149⟩ : ∃ y_ : List Int, y_ = (x3_1 ++ [x8_1]) := ⟨_, rfl⟩
              replace H : (impl_SetList.l0 k1 a0 y149 (wrap64 (x8_1 + 1))) = some r := by first | (rw [hy149]; with_reducible exact H) | (have H2_ := (Option.bind_some _ _).symm.trans H; rw [hy149]; with_reducible exact H2_) | (have H2_ := (Option.bind_some _ _).symm.trans H; with_reducible exact H2_) | with_reducible exact H | (rw [hy149]; exact H) | exact H
              have Ny149 := Aside0.mk hy149
              clear hy149
              have H' := Aside0.mk H
              clear H
              go_wp2_with (first | ((with_reducible refine gate_callee (f := 69) rfl ?_); refine goesL_ (some 13) rfl rfl Try.func69 (by kernel_rfl) rfl #[.int .i64 a0, .int .i64 x8_1] rfl (by (try simp only [List.map_toArray, List.map_cons, List.map_nil]); first | done | rfl | (simp only [List.length_drop, List.length_take]; rfl)) ?_; (with_reducible refine (impl_has.calls a0 x8_1 true _ A5.out).mono ?_); rintro e w' ⟨rfl, ⟨nd, rfl⟩⟩; refine ⟨_, rfl, ?_⟩) | ((with_reducible refine gate_builtin (b := .append) (xs := #[.tmp 14, .tmp 16]) rfl ?_); at_builtin; refine Kd.R_append (Kd.int .i64) (w0 := w) w.heap.size rfl (.tmp 14) (.tmp 16) 42 3 (.int .i64 0) 8 rfl Try.underlying42 info3 rfl (by decide) (by omega) u3 x3_1 x8_1 [.int .i64 x8_1] (fun _ => True) (fun _ => False) rfl rfl ?aP (fun _ hk => hk.elim) ?aF ?aO ?aB ?aS ?aL ?_; (case aP => exact rfl); (case aB => exact (by repeat (first | (with_reducible first | exact HB.out | apply below_alloc | apply pw_below_drewN | apply below_drew1) | exact HB.out))); (case aF => exact (fun _ _ => trivial)); (case aO => exact (by (with_reducible repeat (first | apply Kd.R_alloc | apply Kd.R_drewN | apply Kd.R_drew)); exact HO_3.out)); (case aS => exact (below_size (by repeat (first | (with_reducible first | exact HB.out | apply below_alloc | apply pw_below_drewN | apply below_drew1) | exact HB.out)))); (case aL => have := LMc7.out; omega); intro v150 w8 ho hb hg hat; rw [← Ny149.out] at ho; have n0_ := Aside0.mk (hb); have n1_ := Aside0.mk (ho); clear HB; clear HO_3; have HB := n0_; have HO151 := n1_; clear n0_ n1_; clear ho hb hg hat))
              go_roundg k1
              case measure => have := HK1.out; omega
              case rel => exact ⟨(y149), (wrap64 (x8_1 + 1)), (by first | rfl | (simp; done) | (simp [*]; done) | (rw [Int.tmod_eq_emod_of_nonneg (Int.natCast_nonneg _)]; done)), H', ⟨by have := HK1.out; omega⟩, ⟨by (with_reducible repeat (first | apply Kd.R_alloc | apply Kd.R_drewN | apply Kd.R_drew)); exact HO151.out⟩, ⟨by repeat (first | (with_reducible first | exact HB.out | apply below_alloc | apply pw_below_drewN | apply below_drew1) | exact HB.out)⟩⟩
            · rw [if_neg c7] at H
              exact absurd H (by simp)
          · replace c6 := Bool.eq_false_iff.mpr c6
            subst c6
            have H1 : (impl_SetList.l0 k1 a0 x3_1 (wrap64 (x8_1 + 1))) = some r := by rw [if_neg (show ¬ (false = true) by decide)] at H; exact H
            clear H
            have H := H1
            clear H1
            have H' := Aside0.mk H
            clear H
            go_wp2_with (first | ((with_reducible refine gate_callee (f := 69) rfl ?_); refine goesL_ (some 13) rfl rfl Try.func69 (by kernel_rfl) rfl #[.int .i64 a0, .int .i64 x8_1] rfl (by (try simp only [List.map_toArray, List.map_cons, List.map_nil]); first | done | rfl | (simp only [List.length_drop, List.length_take]; rfl)) ?_; (with_reducible refine (impl_has.calls a0 x8_1 false _ A5.out).mono ?_); rintro e w' ⟨rfl, ⟨nd, rfl⟩⟩; refine ⟨_, rfl, ?_⟩))
            go_roundg k1
            case measure => have := HK1.out; omega
            case rel => exact ⟨(x3_1), (wrap64 (x8_1 + 1)), (by first | rfl | (simp; done) | (simp [*]; done) | (rw [Int.tmod_eq_emod_of_nonneg (Int.natCast_nonneg _)]; done)), H', ⟨by have := HK1.out; omega⟩, ⟨by (with_reducible repeat (first | apply Kd.R_alloc | apply Kd.R_drewN | apply Kd.R_drew)); exact HO_3.out⟩, ⟨by repeat (first | (with_reducible first | exact HB.out | apply below_alloc | apply pw_below_drewN | apply below_drew1) | exact HB.out)⟩⟩
        · rw [if_neg c4] at H
          have c4b0 : decide (x8_1 < 31) = false := decide_eq_false c4
          clear c4
          obtain rfl := Option.some.inj H
          go_wp2
          go_ret
          exact ⟨_, by first | rfl | (simp [errW_none, errW_some] <;> rfl) | (simp [*, errW_none, errW_some] <;> rfl), by (with_reducible repeat (first | apply Kd.R_alloc | apply Kd.R_drewN | apply Kd.R_drew)); exact HO_3.out, by repeat (first | (with_reducible first | exact HB.out | apply below_alloc | apply pw_below_drewN | apply below_drew1) | exact HB.out)⟩
  · replace c3 := Bool.eq_false_iff.mpr c3
    subst c3
    have H1 : (some ([] : List Int)) = some r := by rw [if_neg (show ¬ (false = true) by decide)] at H; exact H
    clear H
    have H := H1
    clear H1
    obtain rfl := Option.some.inj H
    go_enter Try.func50, Try.ntmps50
    go_wp2_with (first | ((with_reducible refine gate_callee (f := 48) rfl ?_); refine goesL_ (some 6) rfl rfl Try.func48 (by kernel_rfl) rfl #[.int .i64 a0] rfl (by (try simp only [List.map_toArray, List.map_cons, List.map_nil]); first | done | rfl | (simp only [List.length_drop, List.length_take]; rfl)) ?_; (with_reducible refine (impl_SetOk.calls a0 false _ A2.out).mono ?_); rintro e w' ⟨rfl, ⟨nd, rfl⟩⟩; refine ⟨_, rfl, ?_⟩))
    go_ret
    exact ⟨_, by first | rfl | (simp [errW_none, errW_some] <;> rfl) | (simp [*, errW_none, errW_some] <;> rfl), by first | exact Kd.R_nil _ _ _ _ _ | exact Kd.N_nil _ _ _ _ _ | exact Kd.V_nil _ _ _ _ _ | exact Kd.Q_nil _ _ _ _ _ | exact Kd.S_nil _ _ _ _ _, by repeat (first | (with_reducible first | exact HB.out | apply below_alloc | apply pw_below_drewN | apply below_drew1) | exact HB.out)⟩

-- NOT PRINTED: function 52 (impl_reader_two)

-- NOT PRINTED: function 59 (impl_reader_one)

-- NOT PRINTED: function 70 (impl_reader_leaf)

-- NOT PRINTED: function 51 (impl_reader_product)

end Go.Proofs.Ytjnieoogddmmcaa.MFnExactExprOf
