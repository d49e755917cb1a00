-- Written by a program of this session, out of Lean's print of the translation. Not trusted: Lean checks it.
import Derived.Test.YtigmokdcanebeaaMFnExactAutoMakex0
namespace Go.Proofs.Ytigmokdcanebeaa.MFnExactAutoMake
open Go.RowKit Go.Proofs.YtigmokdcanebeaaW.PrintWords Go.Proofs.YtigmokdcanebeaaW.PrintLast Go.Proofs.YtigmokdcanebeaaW.PrintMore
attribute [local go_sem] max2_int min2_int max_two min_two max_three min_three max_four min_four   -- for this text's walks alone
set_option linter.unusedVariables false
set_option linter.unusedSimpArgs false

/-! ### impl_inRange: function 30 -/
def impl_inRange.f (a0 : Int) (a1 : Int) (a2 : Int) : Option (Bool) := if a0 ≥ a1 then (some (decide (a0 ≤ a2))) else (some false)
set_option maxHeartbeats 8000000 in
set_option maxRecDepth 100000 in
theorem impl_inRange.calls (a0 : Int) (a1 : Int) (a2 : Int) (r : Bool) (w : World) (h : impl_inRange.f a0 a1 a2 = some r) :
    Calls Try.prog 30 #[.int .i64 a0, .int .i64 a1, .int .i64 a2] w fun e w' => e = .returned (.bool r) ∧ Drawn0 w w' := by
  have H : (if a0 ≥ a1 then (some (decide (a0 ≤ a2))) else (some false)) = some r := h
  clear h
  by_cases c4 : a0 ≥ a1
  · rw [if_pos c4] at H
    have c4b0 : decide (a1 ≤ a0) = true := decide_eq_true c4
    clear c4
    obtain rfl := Option.some.inj H
    go_enter Try.func30, Try.ntmps30
    go_wp2
    go_ret
    exact ⟨by first | rfl | (simp; done) | (simp [*]; done), by repeat (first | exact Drawn0.refl _ | apply Drawn0.step)⟩
  · rw [if_neg c4] at H
    have c4b0 : decide (a1 ≤ a0) = false := decide_eq_false c4
    clear c4
    obtain rfl := Option.some.inj H
    go_enter Try.func30, Try.ntmps30
    go_wp2
    go_ret
    exact ⟨by first | rfl | (simp; done) | (simp [*]; done), by repeat (first | exact Drawn0.refl _ | apply Drawn0.step)⟩

/-! ### impl_isLetters: function 41 -/
def impl_isLetters.f (a0 : Int) : Option (Bool) := (impl_inRange.f a0 1 8).bind fun t101 => (some t101)
set_option maxHeartbeats 8000000 in
set_option maxRecDepth 100000 in
theorem impl_isLetters.calls (a0 : Int) (r : Bool) (w : World) (h : impl_isLetters.f a0 = some r) :
    Calls Try.prog 41 #[.int .i64 a0] w fun e w' => e = .returned (.bool r) ∧ Drawn0 w w' := by
  have H : ((impl_inRange.f a0 1 8).bind fun t101 => (some t101)) = some r := h
  clear h
  replace H := Option.bind_eq_some_iff.mp H
  obtain ⟨t101, A20, H⟩ := H
  replace H : (some t101) = some r := H
  have A2 := Aside0.mk A20
  clear A20
  obtain rfl := Option.some.inj H
  go_enter Try.func41, Try.ntmps41
  go_wp2_with (first | ((with_reducible refine gate_callee (f := 30) rfl ?_); refine goesL_ (some 4) rfl rfl Try.func30 (by kernel_rfl) rfl #[.int .i64 a0, .int .i64 1, .int .i64 8] rfl (by (try simp only [List.map_toArray, List.map_cons, List.map_nil]); first | done | rfl | (simp only [List.length_drop, List.length_take]; rfl)) ?_; (with_reducible refine (impl_inRange.calls a0 1 8 t101 _ A2.out).mono ?_); rintro e w' ⟨rfl, ⟨nd, rfl⟩⟩; refine ⟨_, rfl, ?_⟩))
  go_ret
  exact ⟨by first | rfl | (simp; done) | (simp [*]; done), by repeat (first | exact Drawn0.refl _ | apply Drawn0.step)⟩

/-! ### impl_SetOk: function 42 -/
def impl_SetOk.f (a0 : Int) : Option (Bool) := (impl_inRange.f a0 0 2147483647).bind fun t102 => (some t102)
set_option maxHeartbeats 8000000 in
set_option maxRecDepth 100000 in
theorem impl_SetOk.calls (a0 : Int) (r : Bool) (w : World) (h : impl_SetOk.f a0 = some r) :
    Calls Try.prog 42 #[.int .i64 a0] w fun e w' => e = .returned (.bool r) ∧ Drawn0 w w' := by
  have H : ((impl_inRange.f a0 0 2147483647).bind fun t102 => (some t102)) = some r := h
  clear h
  replace H := Option.bind_eq_some_iff.mp H
  obtain ⟨t102, A20, H⟩ := H
  replace H : (some t102) = some r := H
  have A2 := Aside0.mk A20
  clear A20
  obtain rfl := Option.some.inj H
  go_enter Try.func42, Try.ntmps42
  go_wp2_with (first | ((with_reducible refine gate_callee (f := 30) rfl ?_); refine goesL_ (some 4) rfl rfl Try.func30 (by kernel_rfl) rfl #[.int .i64 a0, .int .i64 0, .int .i64 2147483647] rfl (by (try simp only [List.map_toArray, List.map_cons, List.map_nil]); first | done | rfl | (simp only [List.length_drop, List.length_take]; rfl)) ?_; (with_reducible refine (impl_inRange.calls a0 0 2147483647 t102 _ A2.out).mono ?_); rintro e w' ⟨rfl, ⟨nd, rfl⟩⟩; refine ⟨_, rfl, ?_⟩))
  go_ret
  exact ⟨by first | rfl | (simp; done) | (simp [*]; done), by repeat (first | exact Drawn0.refl _ | apply Drawn0.step)⟩

/-! ### impl_only: function 43 -/
def impl_only.f (a0 : Int) : Option (Int) := if 0 ≤ (IntKind.u64.wrap (a0)) then (some (shl .i64 1 (IntKind.u64.wrap (a0)))) else (none)
set_option maxHeartbeats 8000000 in
set_option maxRecDepth 100000 in
theorem impl_only.calls (a0 : Int) (r : Int) (w : World) (h : impl_only.f a0 = some r) :
    Calls Try.prog 43 #[.int .i64 a0] w fun e w' => e = .returned (.int .i64 r) ∧ Drawn0 w w' := by
  have H : (if 0 ≤ (IntKind.u64.wrap (a0)) then (some (shl .i64 1 (IntKind.u64.wrap (a0)))) else (none)) = some r := h
  clear h
  obtain ⟨ji2, hji2⟩ : ∃ j_ : Int, (IntKind.u64.wrap (a0)) = j_ := ⟨_, rfl⟩
  replace H : (if 0 ≤ (ji2) then (some (shl .i64 1 (ji2))) else (none)) = some r := by first | (rw [hji2] at H; exact H) | (simp only [hji2] at H ⊢; exact H)
  by_cases c3 : 0 ≤ (ji2)
  · rw [if_pos c3] at H
    have c3b0 := eq_true c3
    have c3b1 : decide (0 ≤ (ji2)) = true := decide_eq_true c3
    clear c3
    obtain ⟨ji4, hji4⟩ : ∃ j_ : Int, (shl .i64 1 (ji2)) = j_ := ⟨_, rfl⟩
    replace H : (some ji4) = some r := by first | (rw [hji4] at H; exact H) | (simp only [hji4] at H ⊢; exact H)
    have hji4_ : (IntKind.i64.wrap (1 * 2 ^ min (ji2).toNat 64)) = ji4 := hji4
    have hji4z : (ji2) ≤ 64 → (IntKind.i64.wrap (1 * 2 ^ (ji2).toNat)) = ji4 := shl_small hji4
    have hji4u : (IntKind.i64.wrap (2 ^ min (ji2).toNat 64)) = ji4 := by have h_ := hji4_; rw [Int.one_mul] at h_; exact h_
    have hji4v : (ji2) ≤ 64 → (IntKind.i64.wrap (2 ^ (ji2).toNat)) = ji4 := fun hle_ => by have h_ := hji4z hle_; rw [Int.one_mul] at h_; exact h_
    have hji4y : (wrap64 (1 * 2 ^ min (ji2).toNat 64)) = ji4 := (i64_w _).symm.trans hji4_
    have hji4x : (ji2) ≤ 64 → (wrap64 (1 * 2 ^ (ji2).toNat)) = ji4 := fun h_ => (i64_w _).symm.trans (hji4z h_)
    obtain rfl := Option.some.inj H
    go_enter Try.func43, Try.ntmps43
    go_wp2
    go_ret
    exact ⟨by first | rfl | (simp; done) | (simp only [← hji2, ← hji4] <;> (first | rfl | simp)) | (simp [*]; done), by repeat (first | exact Drawn0.refl _ | apply Drawn0.step)⟩
  · rw [if_neg c3] at H
    exact absurd H (by simp)


/-! ### impl_headOk: function 29 -/
def impl_headOk.f (a0 : Int) (a1 : Int) (a2 : Int) : Option (Bool) := (impl_isLetters.f a0).bind fun t103 => (if t103 = true then ((impl_inRange.f a1 0 31).bind fun t104 => (if t104 = true then ((impl_SetOk.f a2).bind fun t105 => (if t105 = true then ((impl_only.f a1).bind fun t106 => (some (decide (a2 < t106)))) else (some false))) else (some false))) else (some false))
open Go.Proofs.Ytigmokdcanebeaa.Short2 in
set_option maxHeartbeats 8000000 in
set_option maxRecDepth 100000 in
theorem impl_headOk.calls (a0 : Int) (a1 : Int) (a2 : Int) (r : Bool) (w : World) (h : impl_headOk.f a0 a1 a2 = some r) :
  Calls Try.prog 29 #[.int .i64 a0, .int .i64 a1, .int .i64 a2] w fun e w' => e = .returned (.bool r) ∧ Drawn0 w w' := by
 have H : ((impl_isLetters.f a0).bind fun t103 => (if t103 = true then ((impl_inRange.f a1 0 31).bind fun t104 => (if t104 = true then ((impl_SetOk.f a2).bind fun t105 => (if t105 = true then ((impl_only.f a1).bind fun t106 => (some (decide (a2 < t106)))) else (some false))) else (some false))) else (some false))) = some r := h; clear h; replace H := Option.bind_eq_some_iff.mp H; obtain ⟨t103, A40, H⟩ := H; replace H : (if t103 = true then ((impl_inRange.f a1 0 31).bind fun t104 => (if t104 = true then ((impl_SetOk.f a2).bind fun t105 => (if t105 = true then ((impl_only.f a1).bind fun t106 => (some (decide (a2 < t106)))) else (some false))) else (some false))) else (some false)) = some r := H; have A4 := Aside0.mk A40; clear A40
 by_cases c5 : t103 = true
 ·subst c5
  have H1 : ((impl_inRange.f a1 0 31).bind fun t104 => (if t104 = true then ((impl_SetOk.f a2).bind fun t105 => (if t105 = true then ((impl_only.f a1).bind fun t106 => (some (decide (a2 < t106)))) else (some false))) else (some false))) = some r := by rw [if_pos rfl] at H; exact H
  clear H; have H := H1; clear H1; replace H := Option.bind_eq_some_iff.mp H; obtain ⟨t104, A60, H⟩ := H; replace H : (if t104 = true then ((impl_SetOk.f a2).bind fun t105 => (if t105 = true then ((impl_only.f a1).bind fun t106 => (some (decide (a2 < t106)))) else (some false))) else (some false)) = some r := H; have A6 := Aside0.mk A60; clear A60
  by_cases c7 : t104 = true
  ·subst c7
   have H1 : ((impl_SetOk.f a2).bind fun t105 => (if t105 = true then ((impl_only.f a1).bind fun t106 => (some (decide (a2 < t106)))) else (some false))) = some r := by rw [if_pos rfl] at H; exact H
   clear H; have H := H1; clear H1; replace H := Option.bind_eq_some_iff.mp H; obtain ⟨t105, A80, H⟩ := H; replace H : (if t105 = true then ((impl_only.f a1).bind fun t106 => (some (decide (a2 < t106)))) else (some false)) = some r := H; have A8 := Aside0.mk A80; clear A80
   by_cases c9 : t105 = true
   ·subst c9
    have H1 : ((impl_only.f a1).bind fun t106 => (some (decide (a2 < t106)))) = some r := by rw [if_pos rfl] at H; exact H
    clear H; have H := H1; clear H1; replace H := Option.bind_eq_some_iff.mp H; obtain ⟨t106, A100, H⟩ := H; replace H : (some (decide (a2 < t106))) = some r := H; have A10 := Aside0.mk A100; clear A100; obtain rfl := Option.some.inj H
    go_enter Try.func29, Try.ntmps29
    go_wp2_with (first | ((with_reducible refine gate_callee (f := 41) rfl ?_); refine goesL_ (some 8) rfl rfl Try.func41 (by kernel_rfl) rfl #[.int .i64 a0] rfl (by (try simp only [m3]); first | done | rfl | (simp only [d2]; rfl)) ?_; (with_reducible refine (impl_isLetters.calls a0 true _ A4.out).mono ?_); rintro e w' ⟨rfl, ⟨nd, rfl⟩⟩; refine ⟨_, rfl, ?_⟩) | (go_at_call 30; (with_reducible refine (impl_inRange.calls a1 0 31 true _ A6.out).mono ?_); rintro e w' ⟨rfl, ⟨nd, rfl⟩⟩) | (go_at_call 42; (with_reducible refine (impl_SetOk.calls a2 true _ A8.out).mono ?_); rintro e w' ⟨rfl, ⟨nd, rfl⟩⟩) | (go_at_call 43; (with_reducible refine (impl_only.calls a1 t106 _ A10.out).mono ?_); rintro e w' ⟨rfl, ⟨nd, rfl⟩⟩))
    go_ret; exact ⟨by first | rfl | (simp; done) | (simp [*]; done), by repeat (first | exact Drawn0.refl _ | apply Drawn0.step)⟩
   ·replace c9 := Bool.eq_false_iff.mpr c9; subst c9
    have H1 : (some false) = some r := by rw [if_neg (show ¬ (false = true) by decide)] at H; exact H
    clear H; have H := H1; clear H1; obtain rfl := Option.some.inj H
    go_enter Try.func29, Try.ntmps29
    go_wp2_with (first | ((with_reducible refine gate_callee (f := 41) rfl ?_); refine goesL_ (some 8) rfl rfl Try.func41 (by kernel_rfl) rfl #[.int .i64 a0] rfl (by (try simp only [m3]); first | done | rfl | (simp only [d2]; rfl)) ?_; (with_reducible refine (impl_isLetters.calls a0 true _ A4.out).mono ?_); rintro e w' ⟨rfl, ⟨nd, rfl⟩⟩; refine ⟨_, rfl, ?_⟩) | (go_at_call 30; (with_reducible refine (impl_inRange.calls a1 0 31 true _ A6.out).mono ?_); rintro e w' ⟨rfl, ⟨nd, rfl⟩⟩) | (go_at_call 42; (with_reducible refine (impl_SetOk.calls a2 false _ A8.out).mono ?_); rintro e w' ⟨rfl, ⟨nd, rfl⟩⟩))
    go_ret; exact ⟨by first | rfl | (simp; done) | (simp [*]; done), by repeat (first | exact Drawn0.refl _ | apply Drawn0.step)⟩
  ·replace c7 := Bool.eq_false_iff.mpr c7; subst c7
   have H1 : (some false) = some r := by rw [if_neg (show ¬ (false = true) by decide)] at H; exact H
   clear H; have H := H1; clear H1; obtain rfl := Option.some.inj H
   go_enter Try.func29, Try.ntmps29
   go_wp2_with (first | ((with_reducible refine gate_callee (f := 41) rfl ?_); refine goesL_ (some 8) rfl rfl Try.func41 (by kernel_rfl) rfl #[.int .i64 a0] rfl (by (try simp only [m3]); first | done | rfl | (simp only [d2]; rfl)) ?_; (with_reducible refine (impl_isLetters.calls a0 true _ A4.out).mono ?_); rintro e w' ⟨rfl, ⟨nd, rfl⟩⟩; refine ⟨_, rfl, ?_⟩) | (go_at_call 30; (with_reducible refine (impl_inRange.calls a1 0 31 false _ A6.out).mono ?_); rintro e w' ⟨rfl, ⟨nd, rfl⟩⟩))
   go_ret; exact ⟨by first | rfl | (simp; done) | (simp [*]; done), by repeat (first | exact Drawn0.refl _ | apply Drawn0.step)⟩
 ·replace c5 := Bool.eq_false_iff.mpr c5; subst c5
  have H1 : (some false) = some r := by rw [if_neg (show ¬ (false = true) by decide)] at H; exact H
  clear H; have H := H1; clear H1; obtain rfl := Option.some.inj H
  go_enter Try.func29, Try.ntmps29
  go_wp2_with (first | ((with_reducible refine gate_callee (f := 41) rfl ?_); refine goesL_ (some 8) rfl rfl Try.func41 (by kernel_rfl) rfl #[.int .i64 a0] rfl (by (try simp only [m3]); first | done | rfl | (simp only [d2]; rfl)) ?_; (with_reducible refine (impl_isLetters.calls a0 false _ A4.out).mono ?_); rintro e w' ⟨rfl, ⟨nd, rfl⟩⟩; refine ⟨_, rfl, ?_⟩))
  go_ret; exact ⟨by first | rfl | (simp; done) | (simp [*]; done), by repeat (first | exact Drawn0.refl _ | apply Drawn0.step)⟩


/-! ### cmp_Or_int: function 44 -/
def cmp_Or_int.l0 : Nat → Int → List Int → Int → Int → Option (Int)
 | 0, _, _, _, _ => none
 | k + 1, x3, x6, x7, x8 => if x8 < x7 then (if 0 ≤ x8 then (if x8 < (x6.length : Int) then (if (rd x6 x8) = x3 then (cmp_Or_int.l0 k x3 x6 x7 (wrap64 (x8 + 1))) else (some (rd x6 x8))) else (none)) else (none)) else (some x3)
def cmp_Or_int.f (k : Nat) (l0 : List Int) : Option (Int) := cmp_Or_int.l0 k 0 l0 (l0.length : Int) 0
theorem cmp_Or_int.mono_l : ∀ k, (∀ y0 y1 y2 y3, LeO (cmp_Or_int.l0 k y0 y1 y2 y3) (cmp_Or_int.l0 (k + 1) y0 y1 y2 y3))
 | 0 => fun _ _ _ _ r h => by simp [cmp_Or_int.l0] at h
 | k + 1 => by
  have ih0 := cmp_Or_int.mono_l k
  ·intro y0 y1 y2 y3
   unfold cmp_Or_int.l0
   repeat' first
   | (with_reducible exact ih0 _ _ _ _)
   | (with_reducible exact LeO.refl _)
   | (with_reducible exact LeO.none _)
   | (with_reducible refine LeO.ite ?_ ?_)
   | (with_reducible refine LeO.bind ?_ (fun _ => ?_))
   | exact ih0 _ _ _ _
   | exact LeO.none _
   | refine LeO.ite ?_ ?_
   | refine LeO.bind ?_ (fun _ => ?_)
theorem cmp_Or_int.mono : ∀ a0 k, LeO (cmp_Or_int.f k a0) (cmp_Or_int.f (k + 1) a0) := by
 intro a0 k
 have ih0 := cmp_Or_int.mono_l k
 unfold cmp_Or_int.f
 repeat' first
   | (with_reducible exact ih0 _ _ _ _)
   | (with_reducible exact LeO.refl _)
   | (with_reducible exact LeO.none _)
   | (with_reducible refine LeO.ite ?_ ?_)
   | (with_reducible refine LeO.bind ?_ (fun _ => ?_))
   | exact ih0 _ _ _ _
   | exact LeO.none _
   | refine LeO.ite ?_ ?_
   | refine LeO.bind ?_ (fun _ => ?_)
open Go.Proofs.Ytigmokdcanebeaa.Short2 in
set_option maxHeartbeats 8000000 in
set_option maxRecDepth 100000 in
theorem cmp_Or_int.calls (k : Nat) (A0 : Option Addr) (c0 : Nat) (l0 : List Int) (r : Int) (w : World) (hr0 : Kd.C (Kd.int .i64) w A0 l0.length l0) (hc0 : l0.length ≤ c0) (h : cmp_Or_int.f k l0 = some r) :
  Calls Try.prog 44 #[.slice A0 l0.length c0] w fun e w' => e = .returned (.int .i64 r) ∧ Drawn0 w w' := by
 have HR0 := Aside0.mk hr0; have HC0 := Aside0.mk hc0; clear hr0 hc0; have H : (cmp_Or_int.l0 k 0 l0 (l0.length : Int) 0) = some r := h; clear h; have H' := Aside0.mk H; clear H
 go_enter Try.func44, Try.ntmps44
 go_wp2
 go_loopg [8] k (fun kq v8 w' => ∃ (x8_1 : Int), v8 = .int .i64 x8_1 ∧ Aside0 (cmp_Or_int.l0 kq 0 l0 (l0.length : Int) x8_1 = some r) ∧ Aside0 (kq ≤ k) ∧ Drawn0 w w')
 case atStart => exact ⟨(0), (by first | rfl | (simp; done) | (simp [*]; done) | (rw [Int.tmod_eq_emod_of_nonneg (Int.natCast_nonneg _)]; done)), H', ⟨Nat.le_refl _⟩, by repeat (first | exact Drawn0.refl _ | apply Drawn0.step)⟩
 case round =>
  clear H'; obtain ⟨x8_1, rfl, HA, HK1, ⟨m1, rfl⟩⟩ := hrel
  cases gk with
  | zero => exact absurd HA.out (by simp [cmp_Or_int.l0])
  | succ k1 =>
   have H := HA.out; clear HA; simp only [cmp_Or_int.l0] at H
   by_cases c2 : x8_1 < (l0.length : Int)
   ·rw [if_pos c2] at H; have c2b0 : decide (x8_1 < (l0.length : Int)) = true := decide_eq_true c2; clear c2
    by_cases c3 : 0 ≤ x8_1
    ·rw [if_pos c3] at H; have c3b0 : decide (0 ≤ x8_1) = true := decide_eq_true c3; clear c3
     by_cases c4 : x8_1 < (l0.length : Int)
     ·rw [if_pos c4] at H; have c4b0 : decide (x8_1 < (l0.length : Int)) = true := decide_eq_true c4; clear c4
      by_cases c5 : (rd l0 x8_1) = 0
      ·rw [if_pos c5] at H; have c5b0 : ((rd l0 x8_1) == 0) = true := beq_iff_eq.mpr c5; have c5b1 : ((rd l0 x8_1) != 0) = false := bne_eq_false_iff_eq.mpr c5; clear c5; have H' := Aside0.mk H; clear H; have p107 : 0 ≤ (x8_1 : Int) := of_decide_eq_true (by first | (with_reducible assumption) | assumption); have q107 : x8_1 < (l0.length : Int) := of_decide_eq_true (by first | (with_reducible assumption) | assumption); obtain ⟨ad107, e107, hx107_0⟩ := Kd.at_int HR0.out x8_1 p107 q107
       cases e107
       replace p107 := eq_true p107; replace q107 := eq_true q107
       go_wp2
       go_roundg k1
       case measure => have := HK1.out; omega
       case rel => exact ⟨(wrap64 (x8_1 + 1)), (by first | rfl | (simp; done) | (simp [*]; done) | (rw [Int.tmod_eq_emod_of_nonneg (Int.natCast_nonneg _)]; done)), H', ⟨by have := HK1.out; omega⟩, by repeat (first | exact Drawn0.refl _ | apply Drawn0.step)⟩
      ·rw [if_neg c5] at H; have c5b0 : ((rd l0 x8_1) == 0) = false := beq_eq_false_iff_ne.mpr c5; have c5b1 : ((rd l0 x8_1) != 0) = true := bne_iff_ne.mpr c5; obtain rfl := Option.some.inj H; have p107 : 0 ≤ (x8_1 : Int) := of_decide_eq_true (by first | (with_reducible assumption) | assumption); have q107 : x8_1 < (l0.length : Int) := of_decide_eq_true (by first | (with_reducible assumption) | assumption); obtain ⟨ad107, e107, hx107_0⟩ := Kd.at_int HR0.out x8_1 p107 q107
       cases e107
       replace p107 := eq_true p107; replace q107 := eq_true q107
       go_wp2
       go_ret; exact ⟨by first | rfl | (simp; done) | (simp [*]; done), by repeat (first | exact Drawn0.refl _ | apply Drawn0.step)⟩
     ·rw [if_neg c4] at H; exact absurd H (by simp)
    ·rw [if_neg c3] at H; exact absurd H (by simp)
   ·rw [if_neg c2] at H; have c2b0 : decide (x8_1 < (l0.length : Int)) = false := decide_eq_false c2; clear c2; obtain rfl := Option.some.inj H
    go_wp2
    go_ret; exact ⟨by first | rfl | (simp; done) | (simp [*]; done), by repeat (first | exact Drawn0.refl _ | apply Drawn0.step)⟩

/-! ### cmp_isNaN_int: function 49 -/
def cmp_isNaN_int.f (a0 : Int) : Option (Bool) := some (a0 != a0)
set_option maxHeartbeats 8000000 in
set_option maxRecDepth 100000 in
theorem cmp_isNaN_int.calls (a0 : Int) (r : Bool) (w : World) (h : cmp_isNaN_int.f a0 = some r) :
    Calls Try.prog 49 #[.int .i64 a0] w fun e w' => e = .returned (.bool r) ∧ Drawn0 w w' := by
  have H : (some (a0 != a0)) = some r := h
  clear h
  obtain rfl := Option.some.inj H
  go_enter Try.func49, Try.ntmps49
  go_wp2
  go_ret
  exact ⟨by first | rfl | (simp; done) | (simp [*]; done), by repeat (first | exact Drawn0.refl _ | apply Drawn0.step)⟩


/-! ### cmp_Compare_int: function 45 -/
def cmp_Compare_int.f (a0 : Int) (a1 : Int) : Option (Int) := (cmp_isNaN_int.f a0).bind fun t108 => ((cmp_isNaN_int.f a1).bind fun t109 => (if t108 = true then (if t109 = true then (some 0) else (some (-1))) else (if t109 = true then (some 1) else (if a0 < a1 then (some (-1)) else (if a0 > a1 then (some 1) else (some 0))))))
open Go.Proofs.Ytigmokdcanebeaa.Short2 in
set_option maxHeartbeats 8000000 in
set_option maxRecDepth 100000 in
theorem cmp_Compare_int.calls (a0 : Int) (a1 : Int) (r : Int) (w : World) (h : cmp_Compare_int.f a0 a1 = some r) :
  Calls Try.prog 45 #[.int .i64 a0, .int .i64 a1] w fun e w' => e = .returned (.int .i64 r) ∧ Drawn0 w w' := by
 have H : ((cmp_isNaN_int.f a0).bind fun t108 => ((cmp_isNaN_int.f a1).bind fun t109 => (if t108 = true then (if t109 = true then (some 0) else (some (-1))) else (if t109 = true then (some 1) else (if a0 < a1 then (some (-1)) else (if a0 > a1 then (some 1) else (some 0))))))) = some r := h; clear h; replace H := Option.bind_eq_some_iff.mp H; obtain ⟨t108, A30, H⟩ := H; replace H : ((cmp_isNaN_int.f a1).bind fun t109 => (if t108 = true then (if t109 = true then (some 0) else (some (-1))) else (if t109 = true then (some 1) else (if a0 < a1 then (some (-1)) else (if a0 > a1 then (some 1) else (some 0)))))) = some r := H; have A3 := Aside0.mk A30; clear A30; replace H := Option.bind_eq_some_iff.mp H; obtain ⟨t109, A40, H⟩ := H; replace H : (if t108 = true then (if t109 = true then (some 0) else (some (-1))) else (if t109 = true then (some 1) else (if a0 < a1 then (some (-1)) else (if a0 > a1 then (some 1) else (some 0))))) = some r := H; have A4 := Aside0.mk A40; clear A40
 by_cases c5 : t108 = true
 ·subst c5
  have H1 : (if t109 = true then (some 0) else (some (-1))) = some r := by rw [if_pos rfl] at H; exact H
  clear H; have H := H1; clear H1
  by_cases c6 : t109 = true
  ·subst c6
   have H1 : (some 0) = some r := by rw [if_pos rfl] at H; exact H
   clear H; have H := H1; clear H1; obtain rfl := Option.some.inj H
   go_enter Try.func45, Try.ntmps45
   go_wp2_with (first | ((with_reducible refine gate_callee (f := 49) rfl ?_); refine goesL_ (some 8) rfl rfl Try.func49 (by kernel_rfl) rfl #[.int .i64 a0] rfl (by (try simp only [m3]); first | done | rfl | (simp only [d2]; rfl)) ?_; (with_reducible refine (cmp_isNaN_int.calls a0 true _ A3.out).mono ?_); rintro e w' ⟨rfl, ⟨nd, rfl⟩⟩; refine ⟨_, rfl, ?_⟩) | ((with_reducible refine gate_callee (f := 49) rfl ?_); refine goesL_ (some 10) rfl rfl Try.func49 (by kernel_rfl) rfl #[.int .i64 a1] rfl (by (try simp only [m3]); first | done | rfl | (simp only [d2]; rfl)) ?_; (with_reducible refine (cmp_isNaN_int.calls a1 true _ A4.out).mono ?_); rintro e w' ⟨rfl, ⟨nd, rfl⟩⟩; refine ⟨_, rfl, ?_⟩))
   go_ret; exact ⟨by first | rfl | (simp; done) | (simp [*]; done), by repeat (first | exact Drawn0.refl _ | apply Drawn0.step)⟩
  ·replace c6 := Bool.eq_false_iff.mpr c6; subst c6
   have H1 : (some (-1)) = some r := by rw [if_neg (show ¬ (false = true) by decide)] at H; exact H
   clear H; have H := H1; clear H1; obtain rfl := Option.some.inj H
   go_enter Try.func45, Try.ntmps45
   go_wp2_with (first | ((with_reducible refine gate_callee (f := 49) rfl ?_); refine goesL_ (some 8) rfl rfl Try.func49 (by kernel_rfl) rfl #[.int .i64 a0] rfl (by (try simp only [m3]); first | done | rfl | (simp only [d2]; rfl)) ?_; (with_reducible refine (cmp_isNaN_int.calls a0 true _ A3.out).mono ?_); rintro e w' ⟨rfl, ⟨nd, rfl⟩⟩; refine ⟨_, rfl, ?_⟩) | ((with_reducible refine gate_callee (f := 49) rfl ?_); refine goesL_ (some 10) rfl rfl Try.func49 (by kernel_rfl) rfl #[.int .i64 a1] rfl (by (try simp only [m3]); first | done | rfl | (simp only [d2]; rfl)) ?_; (with_reducible refine (cmp_isNaN_int.calls a1 false _ A4.out).mono ?_); rintro e w' ⟨rfl, ⟨nd, rfl⟩⟩; refine ⟨_, rfl, ?_⟩))
   go_ret; exact ⟨by first | rfl | (simp; done) | (simp [*]; done), by repeat (first | exact Drawn0.refl _ | apply Drawn0.step)⟩
 ·replace c5 := Bool.eq_false_iff.mpr c5; subst c5
  have H1 : (if t109 = true then (some 1) else (if a0 < a1 then (some (-1)) else (if a0 > a1 then (some 1) else (some 0)))) = some r := by rw [if_neg (show ¬ (false = true) by decide)] at H; exact H
  clear H; have H := H1; clear H1
  by_cases c7 : t109 = true
  ·subst c7
   have H1 : (some 1) = some r := by rw [if_pos rfl] at H; exact H
   clear H; have H := H1; clear H1; obtain rfl := Option.some.inj H
   go_enter Try.func45, Try.ntmps45
   go_wp2_with (first | ((with_reducible refine gate_callee (f := 49) rfl ?_); refine goesL_ (some 8) rfl rfl Try.func49 (by kernel_rfl) rfl #[.int .i64 a0] rfl (by (try simp only [m3]); first | done | rfl | (simp only [d2]; rfl)) ?_; (with_reducible refine (cmp_isNaN_int.calls a0 false _ A3.out).mono ?_); rintro e w' ⟨rfl, ⟨nd, rfl⟩⟩; refine ⟨_, rfl, ?_⟩) | ((with_reducible refine gate_callee (f := 49) rfl ?_); refine goesL_ (some 10) rfl rfl Try.func49 (by kernel_rfl) rfl #[.int .i64 a1] rfl (by (try simp only [m3]); first | done | rfl | (simp only [d2]; rfl)) ?_; (with_reducible refine (cmp_isNaN_int.calls a1 true _ A4.out).mono ?_); rintro e w' ⟨rfl, ⟨nd, rfl⟩⟩; refine ⟨_, rfl, ?_⟩))
   go_ret; exact ⟨by first | rfl | (simp; done) | (simp [*]; done), by repeat (first | exact Drawn0.refl _ | apply Drawn0.step)⟩
  ·replace c7 := Bool.eq_false_iff.mpr c7; subst c7
   have H1 : (if a0 < a1 then (some (-1)) else (if a0 > a1 then (some 1) else (some 0))) = some r := by rw [if_neg (show ¬ (false = true) by decide)] at H; exact H
   clear H; have H := H1; clear H1
   by_cases c8 : a0 < a1
   ·rw [if_pos c8] at H; have c8b0 : decide (a0 < a1) = true := decide_eq_true c8; clear c8; obtain rfl := Option.some.inj H
    go_enter Try.func45, Try.ntmps45
    go_wp2_with (first | ((with_reducible refine gate_callee (f := 49) rfl ?_); refine goesL_ (some 8) rfl rfl Try.func49 (by kernel_rfl) rfl #[.int .i64 a0] rfl (by (try simp only [m3]); first | done | rfl | (simp only [d2]; rfl)) ?_; (with_reducible refine (cmp_isNaN_int.calls a0 false _ A3.out).mono ?_); rintro e w' ⟨rfl, ⟨nd, rfl⟩⟩; refine ⟨_, rfl, ?_⟩) | ((with_reducible refine gate_callee (f := 49) rfl ?_); refine goesL_ (some 10) rfl rfl Try.func49 (by kernel_rfl) rfl #[.int .i64 a1] rfl (by (try simp only [m3]); first | done | rfl | (simp only [d2]; rfl)) ?_; (with_reducible refine (cmp_isNaN_int.calls a1 false _ A4.out).mono ?_); rintro e w' ⟨rfl, ⟨nd, rfl⟩⟩; refine ⟨_, rfl, ?_⟩))
    go_ret; exact ⟨by first | rfl | (simp; done) | (simp [*]; done), by repeat (first | exact Drawn0.refl _ | apply Drawn0.step)⟩
   ·rw [if_neg c8] at H; have c8b0 : decide (a0 < a1) = false := decide_eq_false c8; clear c8
    by_cases c9 : a0 > a1
    ·rw [if_pos c9] at H; have c9b0 : decide (a1 < a0) = true := decide_eq_true c9; clear c9; obtain rfl := Option.some.inj H
     go_enter Try.func45, Try.ntmps45
     go_wp2_with (first | ((with_reducible refine gate_callee (f := 49) rfl ?_); refine goesL_ (some 8) rfl rfl Try.func49 (by kernel_rfl) rfl #[.int .i64 a0] rfl (by (try simp only [m3]); first | done | rfl | (simp only [d2]; rfl)) ?_; (with_reducible refine (cmp_isNaN_int.calls a0 false _ A3.out).mono ?_); rintro e w' ⟨rfl, ⟨nd, rfl⟩⟩; refine ⟨_, rfl, ?_⟩) | ((with_reducible refine gate_callee (f := 49) rfl ?_); refine goesL_ (some 10) rfl rfl Try.func49 (by kernel_rfl) rfl #[.int .i64 a1] rfl (by (try simp only [m3]); first | done | rfl | (simp only [d2]; rfl)) ?_; (with_reducible refine (cmp_isNaN_int.calls a1 false _ A4.out).mono ?_); rintro e w' ⟨rfl, ⟨nd, rfl⟩⟩; refine ⟨_, rfl, ?_⟩))
     go_ret; exact ⟨by first | rfl | (simp; done) | (simp [*]; done), by repeat (first | exact Drawn0.refl _ | apply Drawn0.step)⟩
    ·rw [if_neg c9] at H; have c9b0 : decide (a1 < a0) = false := decide_eq_false c9; clear c9; obtain rfl := Option.some.inj H
     go_enter Try.func45, Try.ntmps45
     go_wp2_with (first | ((with_reducible refine gate_callee (f := 49) rfl ?_); refine goesL_ (some 8) rfl rfl Try.func49 (by kernel_rfl) rfl #[.int .i64 a0] rfl (by (try simp only [m3]); first | done | rfl | (simp only [d2]; rfl)) ?_; (with_reducible refine (cmp_isNaN_int.calls a0 false _ A3.out).mono ?_); rintro e w' ⟨rfl, ⟨nd, rfl⟩⟩; refine ⟨_, rfl, ?_⟩) | ((with_reducible refine gate_callee (f := 49) rfl ?_); refine goesL_ (some 10) rfl rfl Try.func49 (by kernel_rfl) rfl #[.int .i64 a1] rfl (by (try simp only [m3]); first | done | rfl | (simp only [d2]; rfl)) ?_; (with_reducible refine (cmp_isNaN_int.calls a1 false _ A4.out).mono ?_); rintro e w' ⟨rfl, ⟨nd, rfl⟩⟩; refine ⟨_, rfl, ?_⟩))
     go_ret; exact ⟨by first | rfl | (simp; done) | (simp [*]; done), by repeat (first | exact Drawn0.refl _ | apply Drawn0.step)⟩

section
open Go.Proofs.Ytigmokdcanebeaa.Short2.T
abbrev impl_compareEdges.bl0 : Array Bool := #[f, f, f, f, f, f, f, f, f, f, f, f, f, f, f, f, f, f]
abbrev impl_compareEdges.bl1 : Array Bool := #[t, f, f, f, f, f, f, f, f, f, f, f, f, f, f, f, f, f]
abbrev impl_compareEdges.bl2 : Array Bool := #[t, f, t, f, f, f, f, f, f, f, f, f, f, f, f, f, f, f]
abbrev impl_compareEdges.bl3 : Array Bool := #[t, f, t, f, f, t, f, f, f, f, f, f, f, f, f, f, f, f]
abbrev impl_compareEdges.bl4 : Array Bool := #[t, f, t, f, f, t, f, t, f, f, f, f, f, f, f, f, f, f]
abbrev impl_compareEdges.bl5 : Array Bool := #[t, f, t, f, f, t, f, t, f, f, t, f, f, f, f, f, f, f]
abbrev impl_compareEdges.bl6 : Array Bool := #[t, f, t, f, f, t, f, t, f, f, t, f, t, f, f, f, f, f]
abbrev impl_compareEdges.bl7 : Array Bool := #[t, t, t, f, f, t, f, t, f, f, t, f, t, f, f, f, f, f]
abbrev impl_compareEdges.bl8 : Array Bool := #[t, t, t, t, f, t, f, t, f, f, t, f, t, f, f, f, f, f]
abbrev impl_compareEdges.bl9 : Array Bool := #[t, t, t, t, f, t, t, t, f, f, t, f, t, f, f, f, f, f]
abbrev impl_compareEdges.bl10 : Array Bool := #[t, t, t, t, f, t, t, t, t, f, t, f, t, f, f, f, f, f]
abbrev impl_compareEdges.bl11 : Array Bool := #[t, t, t, t, f, t, t, t, t, f, t, t, t, f, f, f, f, f]
abbrev impl_compareEdges.bl12 : Array Bool := #[t, t, t, t, f, t, t, t, t, f, t, t, t, t, f, f, f, f]
abbrev impl_compareEdges.bl13 : Array Bool := #[t, t, t, t, t, t, t, t, t, f, t, t, t, t, f, f, f, f]
abbrev impl_compareEdges.bl14 : Array Bool := #[t, t, t, t, t, t, t, t, t, t, t, t, t, t, f, f, f, f]
abbrev impl_compareEdges.bl15 : Array Bool := #[t, t, t, t, t, t, t, t, t, t, t, t, t, t, t, f, f, f]
abbrev impl_compareEdges.bl16 : Array Bool := #[t, t, t, t, t, t, t, t, t, t, t, t, t, t, t, t, f, f]
abbrev impl_compareEdges.bl17 : Array Bool := #[t, t, t, t, t, t, t, t, t, t, t, t, t, t, t, t, t, f]
abbrev impl_compareEdges.bl18 : Array Bool := #[t, t, t, t, t, t, t, t, t, t, t, t, t, t, t, t, t, t]
end
/-! ### impl_compareEdges: function 31 -/
def impl_compareEdges.f (k : Nat) (a0_0 : Int) (a0_1 : Int) (a0_2 : Int) (a0_3 : Bool) (a1_0 : Int) (a1_1 : Int) (a1_2 : Int) (a1_3 : Bool) : Option (Int) := (cmp_Compare_int.f a0_0 a1_0).bind fun t112 => ((cmp_Compare_int.f a0_1 a1_1).bind fun t113 => ((cmp_Compare_int.f a0_2 a1_2).bind fun t114 => ((cmp_Or_int.f k (([t112, t113, t114] : List Int))).bind fun t118 => (some t118))))
theorem impl_compareEdges.mono : ∀ a0 a1 a2 a3 a4 a5 a6 a7 k, LeO (impl_compareEdges.f k a0 a1 a2 a3 a4 a5 a6 a7) (impl_compareEdges.f (k + 1) a0 a1 a2 a3 a4 a5 a6 a7) := by
 intro a0 a1 a2 a3 a4 a5 a6 a7 k
 unfold impl_compareEdges.f
 repeat' first
   | (with_reducible exact cmp_Or_int.mono _ _)
   | (with_reducible exact LeO.refl _)
   | (with_reducible exact LeO.none _)
   | (with_reducible refine LeO.ite ?_ ?_)
   | (with_reducible refine LeO.bind ?_ (fun _ => ?_))
   | exact cmp_Or_int.mono _ _
   | exact LeO.none _
   | refine LeO.ite ?_ ?_
   | refine LeO.bind ?_ (fun _ => ?_)
def impl_compareEdges.T1 : Bool × List (List Nat × List Nat) := (true, [([], []), ([0], [0]), ([], []), ([2], [2]), ([1, 3], [1, 3]), ([], []), ([5], [5]), ([], []), ([7], [7]), ([6, 8, 4], [6, 8]), ([], []), ([10], [10]), ([], []), ([12], [12]), ([11, 13, 9], [11, 13]), ([4, 9, 14], [4, 9, 14]), ([15, 14], [15]), ([16, 16, 0, 1, 2, 3, 4, 5, 6, 7, 8, 9, 10, 11, 12, 13, 14, 15, 16], [16])])
def impl_compareEdges.B1 : List Nat := [0, 1, 0, 4, 15, 0, 32, 0, 128, 511, 0, 1024, 0, 4096, 16383, 32767, 65535, 131071]
theorem impl_compareEdges.tab1 : rtab .any (opsOf Try.f31 1) = impl_compareEdges.T1 := by kernel_rfl
theorem impl_compareEdges.bits1 : waitsOk impl_compareEdges.T1.2 impl_compareEdges.B1 = true := by kernel_rfl
open Go.Proofs.Ytigmokdcanebeaa.Short2 in
set_option maxHeartbeats 8000000 in
set_option maxRecDepth 100000 in
theorem impl_compareEdges.calls (k : Nat) (a0_0 : Int) (a0_1 : Int) (a0_2 : Int) (a0_3 : Bool) (a1_0 : Int) (a1_1 : Int) (a1_2 : Int) (a1_3 : Bool) (r : Int) (w : World) (h : impl_compareEdges.f k a0_0 a0_1 a0_2 a0_3 a1_0 a1_1 a1_2 a1_3 = some r) :
  Calls Try.prog 31 #[.agg #[.int .i64 a0_0, .int .i64 a0_1, .int .i64 a0_2, .bool a0_3], .agg #[.int .i64 a1_0, .int .i64 a1_1, .int .i64 a1_2, .bool a1_3]] w fun e w' => e = .returned (.int .i64 r) ∧ Below w.heap.size w w' := by
 have hu33 := Try.underlying33; have HB := Aside0.mk (Below.refl w.heap.size w); have H : ((cmp_Compare_int.f a0_0 a1_0).bind fun t112 => ((cmp_Compare_int.f a0_1 a1_1).bind fun t113 => ((cmp_Compare_int.f a0_2 a1_2).bind fun t114 => ((cmp_Or_int.f k (([t112, t113, t114] : List Int))).bind fun t118 => (some t118))))) = some r := h; clear h; replace H := Option.bind_eq_some_iff.mp H; obtain ⟨t112, A30, H⟩ := H; replace H : ((cmp_Compare_int.f a0_1 a1_1).bind fun t113 => ((cmp_Compare_int.f a0_2 a1_2).bind fun t114 => ((cmp_Or_int.f k (([t112, t113, t114] : List Int))).bind fun t118 => (some t118)))) = some r := H; have A3 := Aside0.mk A30; clear A30; replace H := Option.bind_eq_some_iff.mp H; obtain ⟨t113, A40, H⟩ := H; replace H : ((cmp_Compare_int.f a0_2 a1_2).bind fun t114 => ((cmp_Or_int.f k (([t112, t113, t114] : List Int))).bind fun t118 => (some t118))) = some r := H; have A4 := Aside0.mk A40; clear A40; replace H := Option.bind_eq_some_iff.mp H; obtain ⟨t114, A50, H⟩ := H; replace H : ((cmp_Or_int.f k (([t112, t113, t114] : List Int))).bind fun t118 => (some t118)) = some r := H; have A5 := Aside0.mk A50; clear A50; obtain ⟨y115, hy115⟩ : ∃ y_ : List Int, y_ = (([t112, t113, t114] : List Int)) := ⟨_, rfl⟩
 replace H : ((cmp_Or_int.f k y115).bind fun t118 => (some t118)) = some r := by first | (rw [hy115]; with_reducible exact H) | (have H2_ := (Option.bind_some _ _).symm.trans H; rw [hy115]; with_reducible exact H2_) | (have H2_ := (Option.bind_some _ _).symm.trans H; with_reducible exact H2_) | with_reducible exact H | (rw [hy115]; exact H) | exact H
 have Ny115 := Aside0.mk hy115; clear hy115; replace H := Option.bind_eq_some_iff.mp H; obtain ⟨t118, A60, H⟩ := H; replace H : (some t118) = some r := H; have A6 := Aside0.mk A60; clear A60; obtain rfl := Option.some.inj H
 go_enter Try.func31, Try.ntmps31
 try go_wp2_with (first | ((with_reducible refine gate_dst (N := 2) rfl ?_); refine box_event ?hg (N := 2) ?hd (cs := #[.int .i64 a0_0, .int .i64 a0_1, .int .i64 a0_2, .bool a0_3]) (t := 33) ?hr ?_; (case hd => rfl); (case hg => rfl); (case hr => first | (go_simp; done) | (go_simp; rfl)); intro gb110 hg w7 hbox hb; have BK110 := Aside0.mk (hbox); have GW110 := xG HB hg; have GE110 := xG HB hg; replace HB := xS HB hb; clear hb hbox hg) | ((with_reducible refine gate_dst (N := 3) rfl ?_); refine box_event ?hg (N := 3) ?hd (cs := #[.int .i64 a1_0, .int .i64 a1_1, .int .i64 a1_2, .bool a1_3]) (t := 33) ?hr ?_; (case hd => rfl); (case hg => rfl); (case hr => first | (go_simp; done) | (go_simp; rfl)); intro gb111 hg w8 hbox hb; have BK111 := Aside0.mk (hbox); have GW111 := xG HB hg; have GE111 := xG HB hg; replace HB := xS HB hb; have NB110_111 := xN BK110 hg; have NB111_110 := xM BK110 hg; replace BK110 := xB BK110 hb; clear hb hbox hg))
 replace BK110 := Aside0.mk (blk_drew BK110.out); replace BK111 := Aside0.mk (blk_drew BK111.out); replace HB := Aside0.mk (below_drew1 HB.out); refine start_ (n := 18) (S := fun w' => w'.cell? ⟨gb110, 0, none⟩ = some (.int .i64 a0_0) ∧ w'.cell? ⟨gb110, 1, none⟩ = some (.int .i64 a0_1) ∧ w'.cell? ⟨gb110, 2, none⟩ = some (.int .i64 a0_2) ∧ w'.cell? ⟨gb110, 3, none⟩ = some (.bool a0_3) ∧ w'.cell? ⟨gb111, 0, none⟩ = some (.int .i64 a1_0) ∧ w'.cell? ⟨gb111, 1, none⟩ = some (.int .i64 a1_1) ∧ w'.cell? ⟨gb111, 2, none⟩ = some (.int .i64 a1_2) ∧ w'.cell? ⟨gb111, 3, none⟩ = some (.bool a1_3)) (ds := []) bl0 (by kernel_rfl) rfl rfl ⟨b1 BK110 0, b1 BK110 1, b1 BK110 2, b1 BK110 3, b1 BK111 0, b1 BK111 1, b1 BK111 2, b1 BK111 3⟩ (fun hHeld => ?_); refine with_tabW impl_compareEdges.tab1 impl_compareEdges.bits1 (fun HT_ HW_ => ?_); generalize w8.drew = w9 at BK110 BK111 HB hHeld ⊢
 refine pu 0 (some 5) bl1 HT_ ?_ rfl rfl (.inl ⟨by rfl, ?_⟩) ?_ ?_ ?_; rotate_left; (intro w'; go_simp; with_reducible rfl); rotate_left; (simp only [Act.put, q5]; rfl)
 refine pu 2 (some 7) bl2 HT_ ?_ rfl rfl (.inl ⟨by rfl, ?_⟩) ?_ ?_ ?_; rotate_left; (intro w'; go_simp; with_reducible rfl); rotate_left; (simp only [Act.put, q5]; rfl)
 refine pu 5 (some 10) bl3 HT_ ?_ rfl rfl (.inl ⟨by rfl, ?_⟩) ?_ ?_ ?_; rotate_left; (intro w'; go_simp; with_reducible rfl); rotate_left; (simp only [Act.put, q5]; rfl)
 refine pu 7 (some 12) bl4 HT_ ?_ rfl rfl (.inl ⟨by rfl, ?_⟩) ?_ ?_ ?_; rotate_left; (intro w'; go_simp; with_reducible rfl); rotate_left; (simp only [Act.put, q5]; rfl)
 refine pu 10 (some 15) bl5 HT_ ?_ rfl rfl (.inl ⟨by rfl, ?_⟩) ?_ ?_ ?_; rotate_left; (intro w'; go_simp; with_reducible rfl); rotate_left; (simp only [Act.put, q5]; rfl)
 refine pu 12 (some 17) bl6 HT_ ?_ rfl rfl (.inl ⟨by rfl, ?_⟩) ?_ ?_ ?_; rotate_left; (intro w'; go_simp; with_reducible rfl); rotate_left; (simp only [Act.put, q5]; rfl)
 refine take_ (i := 1) (N := some 6) (v := ?_) (a' := ?_) bl7 rfl rfl (take_ofW HT_.out HW_.out (by kernel_rfl)) (fun _ _ _ h => h) (Or.inl ⟨by rfl, ?_⟩) hHeld ?_ ?_; rotate_left
 ·rintro w' ⟨s0, s1, s2, s3, s4, s5, s6, s7⟩; go_simp; with_reducible rfl
 rotate_left
 ·simp only [Act.put, q5]; rfl
 refine take_ (i := 3) (N := some 8) (v := ?_) (a' := ?_) bl8 rfl rfl (take_ofW HT_.out HW_.out (by kernel_rfl)) (fun _ _ _ h => h) (Or.inl ⟨by rfl, ?_⟩) hHeld ?_ ?_; rotate_left
 ·rintro w' ⟨s0, s1, s2, s3, s4, s5, s6, s7⟩; go_simp; with_reducible rfl
 rotate_left
 ·simp only [Act.put, q5]; rfl
 refine take_ (i := 6) (N := some 11) (v := ?_) (a' := ?_) bl9 rfl rfl (take_ofW HT_.out HW_.out (by kernel_rfl)) (fun _ _ _ h => h) (Or.inl ⟨by rfl, ?_⟩) hHeld ?_ ?_; rotate_left
 ·rintro w' ⟨s0, s1, s2, s3, s4, s5, s6, s7⟩; go_simp; with_reducible rfl
 rotate_left
 ·simp only [Act.put, q5]; rfl
 refine take_ (i := 8) (N := some 13) (v := ?_) (a' := ?_) bl10 rfl rfl (take_ofW HT_.out HW_.out (by kernel_rfl)) (fun _ _ _ h => h) (Or.inl ⟨by rfl, ?_⟩) hHeld ?_ ?_; rotate_left
 ·rintro w' ⟨s0, s1, s2, s3, s4, s5, s6, s7⟩; go_simp; with_reducible rfl
 rotate_left
 ·simp only [Act.put, q5]; rfl
 refine take_ (i := 11) (N := some 16) (v := ?_) (a' := ?_) bl11 rfl rfl (take_ofW HT_.out HW_.out (by kernel_rfl)) (fun _ _ _ h => h) (Or.inl ⟨by rfl, ?_⟩) hHeld ?_ ?_; rotate_left
 ·rintro w' ⟨s0, s1, s2, s3, s4, s5, s6, s7⟩; go_simp; with_reducible rfl
 rotate_left
 ·simp only [Act.put, q5]; rfl
 refine take_ (i := 13) (N := some 18) (v := ?_) (a' := ?_) bl12 rfl rfl (take_ofW HT_.out HW_.out (by kernel_rfl)) (fun _ _ _ h => h) (Or.inl ⟨by rfl, ?_⟩) hHeld ?_ ?_; rotate_left
 ·rintro w' ⟨s0, s1, s2, s3, s4, s5, s6, s7⟩; go_simp; with_reducible rfl
 rotate_left
 ·simp only [Act.put, q5]; rfl
 refine one_ (i := 4) (N := some 9) bl13 rfl rfl (one_of HT_.out (by kernel_rfl)) (by decide) (fun K hK => ?_); refine goes_ Try.func45 (by kernel_rfl) rfl #[.int .i64 a0_0, .int .i64 a1_0] (by rfl) rfl rfl (by (try simp only [m3]); first | done | rfl | (simp only [d2]; rfl)) ?_
 with_reducible refine (cmp_Compare_int.calls a0_0 a1_0 t112 _ A3.out).mono ?_
 rintro e w' ⟨rfl, ⟨nd, rfl⟩⟩; refine ⟨_, rfl, ?_⟩; refine hK.out _ _ ⟨b1 BK110 0, b1 BK110 1, b1 BK110 2, b1 BK110 3, b1 BK111 0, b1 BK111 1, b1 BK111 2, b1 BK111 3⟩ (fun hHeld => ?_); clear hK K; refine norm_ (a' := ?_) ?_ ?_; rotate_left
 ·show Act.put _ (some 9) _ = _; simp only [Act.put, q5]; rfl
 refine one_ (i := 9) (N := some 14) bl14 rfl rfl (one_of HT_.out (by kernel_rfl)) (by decide) (fun K hK => ?_); refine goes_ Try.func45 (by kernel_rfl) rfl #[.int .i64 a0_1, .int .i64 a1_1] (by rfl) rfl rfl (by (try simp only [m3]); first | done | rfl | (simp only [d2]; rfl)) ?_
 with_reducible refine (cmp_Compare_int.calls a0_1 a1_1 t113 _ A4.out).mono ?_
 rintro e w' ⟨rfl, ⟨nd, rfl⟩⟩; refine ⟨_, rfl, ?_⟩; refine hK.out _ _ ⟨b1 BK110 0, b1 BK110 1, b1 BK110 2, b1 BK110 3, b1 BK111 0, b1 BK111 1, b1 BK111 2, b1 BK111 3⟩ (fun hHeld => ?_); clear hK K; refine norm_ (a' := ?_) ?_ ?_; rotate_left
 ·show Act.put _ (some 14) _ = _; simp only [Act.put, q5]; rfl
 refine one_ (i := 14) (N := some 19) bl15 rfl rfl (one_of HT_.out (by kernel_rfl)) (by decide) (fun K hK => ?_); refine goes_ Try.func45 (by kernel_rfl) rfl #[.int .i64 a0_2, .int .i64 a1_2] (by rfl) rfl rfl (by (try simp only [m3]); first | done | rfl | (simp only [d2]; rfl)) ?_
 with_reducible refine (cmp_Compare_int.calls a0_2 a1_2 t114 _ A5.out).mono ?_
 rintro e w' ⟨rfl, ⟨nd, rfl⟩⟩; refine ⟨_, rfl, ?_⟩; refine hK.out _ _ ⟨b1 BK110 0, b1 BK110 1, b1 BK110 2, b1 BK110 3, b1 BK111 0, b1 BK111 1, b1 BK111 2, b1 BK111 3⟩ (fun hHeld => ?_); clear hK K; refine norm_ (a' := ?_) ?_ ?_; rotate_left
 ·show Act.put _ (some 19) _ = _; simp only [Act.put, q5]; rfl
 refine one_ (i := 15) (N := some 20) bl16 rfl rfl (one_of HT_.out (by kernel_rfl)) (by decide) (fun K hK => ?_)
 refine Kd.R_lit_step (Kd.int .i64) _ 3 ?hg (N := 20) ?hd (xs := ([t112, t113, t114] : List Int)) (inner := [.int .i64 t112, .int .i64 t113, .int .i64 t114]) (ok := fun _ => True) (okp := fun _ => True) ?hr ?hp (fun _ hk => hk) trivial (Below.refl _ _) (Nat.le_refl _) (by simp) ?_; (case hd => rfl); (case hg => rfl); (case hr => first | (go_simp; done) | (go_simp; rfl)); (case hp => exact (Reps.one (show Kd.M (Kd.int .i64) _ _ _ t112 [.int .i64 t112] from rfl) (Reps.one (show Kd.M (Kd.int .i64) _ _ _ t113 [.int .i64 t113] from rfl) (Reps.one (show Kd.M (Kd.int .i64) _ _ _ t114 [.int .i64 t114] from rfl) (Reps.none _ _)))))
 intro v116 w10 ho11 hb hg_ hnew_; clear hg_ hnew_
 (first | rw [← Ny115.out] at ho11 | (simp only [Int.reduceToNat] at ho11; rw [← Ny115.out] at ho11))
 have HO117 := Aside0.mk (Kd.R_lower ho11 (below_size (zS HB.out))); replace BK110 := xB BK110 hb; replace BK111 := xB BK111 hb; replace HB := xS HB hb; clear hb ho11; obtain ⟨Ao12, co12, eo12⟩ := Kd.R_slice HO117.out
 (first | subst eo12 | (injection eo12 with f1_ f2_ f3_; have f4_ := f1_.symm; have f5_ := f3_.symm; clear f1_ f2_ f3_; subst f4_; subst f5_))
 refine hK.out _ _ ⟨b1 BK110 0, b1 BK110 1, b1 BK110 2, b1 BK110 3, b1 BK111 0, b1 BK111 1, b1 BK111 2, b1 BK111 3⟩ (fun hHeld => ?_); clear hK K; refine norm_ (a' := ?_) ?_ ?_; rotate_left
 ·show Act.put _ (some 20) _ = _; simp only [Act.put, q5]; rfl
 refine one_ (i := 16) (N := some 21) bl17 rfl rfl (one_of HT_.out (by kernel_rfl)) (by decide) (fun K hK => ?_); refine goes_ Try.func44 (by kernel_rfl) rfl #[.slice Ao12 y115.length co12] (by rfl) rfl rfl (by (try simp only [m3]); first | done | rfl | (simp only [d2]; rfl)) ?_
 with_reducible refine (cmp_Or_int.calls k _ _ y115 t118 _ ?side1 ?side2 A6.out).mono ?_
 (case side1 => exact zC (Kd.R_reads' HO117.out).2.2)
 (case side2 => exact (Kd.R_reads' HO117.out).2.1)
 rintro e w' ⟨rfl, ⟨nd, rfl⟩⟩; refine ⟨_, rfl, ?_⟩; refine hK.out _ _ ⟨b1 BK110 0, b1 BK110 1, b1 BK110 2, b1 BK110 3, b1 BK111 0, b1 BK111 1, b1 BK111 2, b1 BK111 3⟩ (fun hHeld => ?_); clear hK K; refine norm_ (a' := ?_) ?_ ?_; rotate_left
 ·show Act.put _ (some 21) _ = _; simp only [Act.put, q5]; rfl
 refine pu 17 (some 4) bl18 HT_ ?_ rfl rfl (.inl ⟨by rfl, ?_⟩) ?_ ?_ ?_; rotate_left; (intro w'; go_simp; with_reducible rfl); rotate_left; (simp only [Act.put, q5]; rfl)
 refine done_ (done_of HT_.out (by kernel_rfl)) ?_
 try go_wp2
 go_ret; exact ⟨by first | rfl | (simp [errW_none, errW_some] <;> rfl) | (simp [*, errW_none, errW_some] <;> rfl), by repeat (first | (with_reducible first | exact HB.out | apply below_alloc | apply pw_below_drewN | apply below_drew1 | refine below_set ?_ GE110.out | refine below_set ?_ GE111.out) | exact HB.out)⟩

section
open Go.Proofs.Ytigmokdcanebeaa.Short2.T
abbrev impl_AutoOk.bl0 : Array Bool := #[f, f, f, f, f, f, f, f, f, f, f, f, f]
abbrev impl_AutoOk.bl1 : Array Bool := #[t, f, f, f, f, f, f, f, f, f, f, f, f]
abbrev impl_AutoOk.bl2 : Array Bool := #[t, t, f, f, f, f, f, f, f, f, f, f, f]
abbrev impl_AutoOk.bl3 : Array Bool := #[t, t, t, f, f, f, f, f, f, f, f, f, f]
abbrev impl_AutoOk.bl4 : Array Bool := #[t, t, t, t, f, f, f, f, f, f, f, f, f]
abbrev impl_AutoOk.bl5 : Array Bool := #[t, t, t, t, f, t, f, f, f, f, f, f, f]
abbrev impl_AutoOk.bl6 : Array Bool := #[t, t, t, t, f, t, t, f, f, f, f, f, f]
abbrev impl_AutoOk.bl7 : Array Bool := #[t, t, t, t, t, t, t, f, f, f, f, f, f]
abbrev impl_AutoOk.bl8 : Array Bool := #[t, t, t, t, t, t, t, t, f, f, f, f, f]
abbrev impl_AutoOk.bl9 : Array Bool := #[t, t, t, t, t, t, t, t, t, f, f, f, f]
abbrev impl_AutoOk.bl10 : Array Bool := #[t, t, t, t, t, t, t, t, t, t, f, f, f]
abbrev impl_AutoOk.bl11 : Array Bool := #[t, t, t, t, t, t, t, t, t, t, t, f, f]
abbrev impl_AutoOk.bl12 : Array Bool := #[t, t, t, t, t, t, t, t, t, t, t, t, f]
abbrev impl_AutoOk.bl13 : Array Bool := #[t, t, t, t, t, t, t, t, t, t, t, t, t]
abbrev impl_AutoOk.bl14 : Array Bool := #[t, t, t, t, t, f, f, f, f, f, f, f, f]
abbrev impl_AutoOk.bl15 : Array Bool := #[t, t, t, t, t, t, f, f, f, f, f, f, f]
end
/-! ### impl_AutoOk: function 9 -/
mutual
def impl_AutoOk.j0 : Nat → Bool → Int → Int → Int → List (S33) → Option (Bool)
 | 0, _, _, _, _, _ => none
 | k + 1, x18, x120000, x120001, x120002, x120003 => if x18 = true then (some false) else (impl_AutoOk.l0 k x120003 (x120003.length : Int) 0 x120000 x120001 x120002 x120003)
def impl_AutoOk.l0 : Nat → List (S33) → Int → Int → Int → Int → Int → List (S33) → Option (Bool)
 | 0, _, _, _, _, _, _, _ => none
 | k + 1, x20, x21, x22, x120000, x120001, x120002, x120003 => if x22 < x21 then (if 0 ≤ x22 then (if x22 < (x20.length : Int) then ((impl_inRange.f ((rd_T33 x20 x22).f0) 0 (wrap64 (x120001 - 1))).bind fun t123 => (if t123 = true then ((impl_inRange.f ((rd_T33 x20 x22).f2) 0 (wrap64 (x120001 - 1))).bind fun t124 => (if t124 = true then ((impl_inRange.f ((rd_T33 x20 x22).f1) 0 (wrap64 (x120000 - 1))).bind fun t125 => (impl_AutoOk.j2 k x22 x20 x21 x22 (!t125) x120000 x120001 x120002 x120003 ((rd_T33 x20 x22).f0) ((rd_T33 x20 x22).f1) ((rd_T33 x20 x22).f2) ((rd_T33 x20 x22).f3))) else (impl_AutoOk.j2 k x22 x20 x21 x22 true x120000 x120001 x120002 x120003 ((rd_T33 x20 x22).f0) ((rd_T33 x20 x22).f1) ((rd_T33 x20 x22).f2) ((rd_T33 x20 x22).f3)))) else (impl_AutoOk.j2 k x22 x20 x21 x22 true x120000 x120001 x120002 x120003 ((rd_T33 x20 x22).f0) ((rd_T33 x20 x22).f1) ((rd_T33 x20 x22).f2) ((rd_T33 x20 x22).f3)))) else (none)) else (none)) else (some true)
def impl_AutoOk.j2 : Nat → Int → List (S33) → Int → Int → Bool → Int → Int → Int → List (S33) → Int → Int → Int → Bool → Option (Bool)
 | 0, _, _, _, _, _, _, _, _, _, _, _, _, _ => none
 | k + 1, x3, x20, x21, x22, x51, x120000, x120001, x120002, x120003, x123000, x123001, x123002, x123003 => if x51 = true then (some false) else (if x3 > 0 then (if 0 ≤ (wrap64 (x3 - 1)) then (if (wrap64 (x3 - 1)) < (x120003.length : Int) then ((impl_compareEdges.f k ((rd_T33 x120003 (wrap64 (x3 - 1))).f0) ((rd_T33 x120003 (wrap64 (x3 - 1))).f1) ((rd_T33 x120003 (wrap64 (x3 - 1))).f2) ((rd_T33 x120003 (wrap64 (x3 - 1))).f3) x123000 x123001 x123002 x123003).bind fun t127 => (if t127 ≥ 0 then (some false) else (impl_AutoOk.l0 k x20 x21 (wrap64 (x22 + 1)) x120000 x120001 x120002 x120003))) else (none)) else (none)) else (impl_AutoOk.l0 k x20 x21 (wrap64 (x22 + 1)) x120000 x120001 x120002 x120003))
end
def impl_AutoOk.f (k : Nat) (a0_0 : Int) (a0_1 : Int) (a0_2 : Int) (l0_3 : List (S33)) : Option (Bool) := (impl_headOk.f a0_0 a0_1 a0_2).bind fun t120 => (if t120 = true then (impl_AutoOk.j0 k (decide ((l0_3.length : Int) > 2000)) a0_0 a0_1 a0_2 l0_3) else (impl_AutoOk.j0 k true a0_0 a0_1 a0_2 l0_3))
theorem impl_AutoOk.mono_l : ∀ k, (∀ y0 y1 y2 y3 y4, LeO (impl_AutoOk.j0 k y0 y1 y2 y3 y4) (impl_AutoOk.j0 (k + 1) y0 y1 y2 y3 y4)) ∧ (∀ y0 y1 y2 y3 y4 y5 y6, LeO (impl_AutoOk.l0 k y0 y1 y2 y3 y4 y5 y6) (impl_AutoOk.l0 (k + 1) y0 y1 y2 y3 y4 y5 y6)) ∧ (∀ y0 y1 y2 y3 y4 y5 y6 y7 y8 y9 y10 y11 y12, LeO (impl_AutoOk.j2 k y0 y1 y2 y3 y4 y5 y6 y7 y8 y9 y10 y11 y12) (impl_AutoOk.j2 (k + 1) y0 y1 y2 y3 y4 y5 y6 y7 y8 y9 y10 y11 y12))
 | 0 => ⟨fun _ _ _ _ _ r h => by simp [impl_AutoOk.j0] at h, fun _ _ _ _ _ _ _ r h => by simp [impl_AutoOk.l0] at h, fun _ _ _ _ _ _ _ _ _ _ _ _ _ r h => by simp [impl_AutoOk.j2] at h⟩
 | k + 1 => by
  obtain ⟨ih0, ih1, ih2⟩ := impl_AutoOk.mono_l k
  refine ⟨?_, ?_, ?_⟩
  ·intro y0 y1 y2 y3 y4
   unfold impl_AutoOk.j0
   repeat' first
   | (with_reducible exact ih0 _ _ _ _ _)
   | (with_reducible exact ih1 _ _ _ _ _ _ _)
   | (with_reducible exact ih2 _ _ _ _ _ _ _ _ _ _ _ _ _)
   | (with_reducible exact impl_compareEdges.mono _ _ _ _ _ _ _ _ _)
   | (with_reducible exact LeO.refl _)
   | (with_reducible exact LeO.none _)
   | (with_reducible refine LeO.ite ?_ ?_)
   | (with_reducible refine LeO.bind ?_ (fun _ => ?_))
   | exact ih0 _ _ _ _ _
   | exact ih1 _ _ _ _ _ _ _
   | exact ih2 _ _ _ _ _ _ _ _ _ _ _ _ _
   | exact impl_compareEdges.mono _ _ _ _ _ _ _ _ _
   | exact LeO.none _
   | refine LeO.ite ?_ ?_
   | refine LeO.bind ?_ (fun _ => ?_)
  ·intro y0 y1 y2 y3 y4 y5 y6
   unfold impl_AutoOk.l0
   repeat' first
   | (with_reducible exact ih0 _ _ _ _ _)
   | (with_reducible exact ih1 _ _ _ _ _ _ _)
   | (with_reducible exact ih2 _ _ _ _ _ _ _ _ _ _ _ _ _)
   | (with_reducible exact impl_compareEdges.mono _ _ _ _ _ _ _ _ _)
   | (with_reducible exact LeO.refl _)
   | (with_reducible exact LeO.none _)
   | (with_reducible refine LeO.ite ?_ ?_)
   | (with_reducible refine LeO.bind ?_ (fun _ => ?_))
   | exact ih0 _ _ _ _ _
   | exact ih1 _ _ _ _ _ _ _
   | exact ih2 _ _ _ _ _ _ _ _ _ _ _ _ _
   | exact impl_compareEdges.mono _ _ _ _ _ _ _ _ _
   | exact LeO.none _
   | refine LeO.ite ?_ ?_
   | refine LeO.bind ?_ (fun _ => ?_)
  ·intro y0 y1 y2 y3 y4 y5 y6 y7 y8 y9 y10 y11 y12
   unfold impl_AutoOk.j2
   repeat' first
   | (with_reducible exact ih0 _ _ _ _ _)
   | (with_reducible exact ih1 _ _ _ _ _ _ _)
   | (with_reducible exact ih2 _ _ _ _ _ _ _ _ _ _ _ _ _)
   | (with_reducible exact impl_compareEdges.mono _ _ _ _ _ _ _ _ _)
   | (with_reducible exact LeO.refl _)
   | (with_reducible exact LeO.none _)
   | (with_reducible refine LeO.ite ?_ ?_)
   | (with_reducible refine LeO.bind ?_ (fun _ => ?_))
   | exact ih0 _ _ _ _ _
   | exact ih1 _ _ _ _ _ _ _
   | exact ih2 _ _ _ _ _ _ _ _ _ _ _ _ _
   | exact impl_compareEdges.mono _ _ _ _ _ _ _ _ _
   | exact LeO.none _
   | refine LeO.ite ?_ ?_
   | refine LeO.bind ?_ (fun _ => ?_)
theorem impl_AutoOk.mono : ∀ a0 a1 a2 a3 k, LeO (impl_AutoOk.f k a0 a1 a2 a3) (impl_AutoOk.f (k + 1) a0 a1 a2 a3) := by
 intro a0 a1 a2 a3 k
 obtain ⟨ih0, ih1, ih2⟩ := impl_AutoOk.mono_l k
 unfold impl_AutoOk.f
 repeat' first
   | (with_reducible exact ih0 _ _ _ _ _)
   | (with_reducible exact ih1 _ _ _ _ _ _ _)
   | (with_reducible exact ih2 _ _ _ _ _ _ _ _ _ _ _ _ _)
   | (with_reducible exact impl_compareEdges.mono _ _ _ _ _ _ _ _ _)
   | (with_reducible exact LeO.refl _)
   | (with_reducible exact LeO.none _)
   | (with_reducible refine LeO.ite ?_ ?_)
   | (with_reducible refine LeO.bind ?_ (fun _ => ?_))
   | exact ih0 _ _ _ _ _
   | exact ih1 _ _ _ _ _ _ _
   | exact ih2 _ _ _ _ _ _ _ _ _ _ _ _ _
   | exact impl_compareEdges.mono _ _ _ _ _ _ _ _ _
   | exact LeO.none _
   | refine LeO.ite ?_ ?_
   | refine LeO.bind ?_ (fun _ => ?_)
def impl_AutoOk.T8 : Bool × List (List Nat × List Nat) := (true, [([], []), ([0], [0]), ([1], [1]), ([2], [2]), ([3, 2], [2, 3]), ([2], [2]), ([5, 2], [2, 5]), ([4, 6, 2], [2, 4, 6]), ([7, 2], [2, 7]), ([2], [2]), ([8, 9, 2, 2], [2, 8, 9]), ([10, 2], [2, 10]), ([2, 11], [2, 11])])
def impl_AutoOk.B8 : List Nat := [0, 1, 3, 7, 15, 7, 39, 127, 255, 7, 1023, 2047, 4095]
theorem impl_AutoOk.tab8 : rtab .any (opsOf Try.f9 8) = impl_AutoOk.T8 := by kernel_rfl
theorem impl_AutoOk.bits8 : waitsOk impl_AutoOk.T8.2 impl_AutoOk.B8 = true := by kernel_rfl
open Go.Proofs.Ytigmokdcanebeaa.Short2 in
set_option maxHeartbeats 8000000 in
set_option maxRecDepth 100000 in
theorem impl_AutoOk.calls (k : Nat) (a0_0 : Int) (a0_1 : Int) (a0_2 : Int) (A0_3 : Option Addr) (c0_3 : Nat) (l0_3 : List (S33)) (r : Bool) (w : World) (hr0_3 : Kd.C k33 w A0_3 l0_3.length l0_3) (hc0_3 : l0_3.length ≤ c0_3) (h : impl_AutoOk.f k a0_0 a0_1 a0_2 l0_3 = some r) :
  Calls Try.prog 9 #[.agg #[.int .i64 a0_0, .int .i64 a0_1, .int .i64 a0_2, .slice A0_3 l0_3.length c0_3]] w fun e w' => e = .returned (.bool r) ∧ Below w.heap.size w w' := by
 have hu28 := Try.underlying28; have hu33 := Try.underlying33; have HR0_3 := Aside0.mk hr0_3; have HC0_3 := Aside0.mk hc0_3; clear hr0_3 hc0_3; have HB := Aside0.mk (Below.refl w.heap.size w); have H : ((impl_headOk.f a0_0 a0_1 a0_2).bind fun t120 => (if t120 = true then (impl_AutoOk.j0 k (decide ((l0_3.length : Int) > 2000)) a0_0 a0_1 a0_2 l0_3) else (impl_AutoOk.j0 k true a0_0 a0_1 a0_2 l0_3))) = some r := h; clear h; have HC2 := Aside0.mk H; clear H
 go_enter Try.func9, Try.ntmps9
 go_upto_region 1 with (first | ((with_reducible refine gate_dst (N := 1) rfl ?_); (try (refine gate_guard (by rfl) ?_; dsimp only)); refine box_event ?hg (N := 1) ?hd (cs := #[.int .i64 a0_0, .int .i64 a0_1, .int .i64 a0_2, .slice A0_3 l0_3.length c0_3]) (t := 28) ?hr ?_; (case hd => rfl); (case hg => rfl); (case hr => first | (go_simp; done) | (go_simp; rfl)); intro gb119 hg w3 hbox hb; have BK119 := Aside0.mk (hbox); have GW119 := xG HB hg; have GE119 := xG HB hg; replace HB := xS HB hb; clear hb hbox hg))
 (try simp only [Act.put, q3])
 go_cut [18] (fun v18 wc => ∃ (kq : Nat) (x18_1 : Bool), v18 = .bool x18_1 ∧ Aside0 (impl_AutoOk.j0 kq x18_1 a0_0 a0_1 a0_2 l0_3 = some r) ∧ Aside0 (kq ≤ k) ∧ Aside0 (wc.heap[gb119]? = some (.cells #[.int .i64 a0_0, .int .i64 a0_1, .int .i64 a0_2, (.slice A0_3 l0_3.length c0_3)] 28 (0, 0))) ∧ Aside0 (Below w.heap.size w wc))
 case first =>
  have H := HC2.out; clear HC2; replace H := Option.bind_eq_some_iff.mp H; obtain ⟨t120, A40, H⟩ := H; replace H : (if t120 = true then (impl_AutoOk.j0 k (decide ((l0_3.length : Int) > 2000)) a0_0 a0_1 a0_2 l0_3) else (impl_AutoOk.j0 k true a0_0 a0_1 a0_2 l0_3)) = some r := H; have A4 := Aside0.mk A40; clear A40
  by_cases c5 : t120 = true
  ·subst c5
   have H1 : (impl_AutoOk.j0 k (decide ((l0_3.length : Int) > 2000)) a0_0 a0_1 a0_2 l0_3) = some r := by rw [if_pos rfl] at H; exact H
   clear H; have H := H1; clear H1; have H' := Aside0.mk H; clear H; have hcz6_0 : w3.cell? ⟨gb119, 0, none⟩ = some (.int .i64 a0_0) := b1 BK119 0; have hcz6_1 : w3.cell? ⟨gb119, 1, none⟩ = some (.int .i64 a0_1) := b1 BK119 1; have hcz6_2 : w3.cell? ⟨gb119, 2, none⟩ = some (.int .i64 a0_2) := b1 BK119 2; have hcz6_3 : w3.cell? ⟨gb119, 3, none⟩ = some (.slice A0_3 l0_3.length c0_3) := b1 BK119 3; have hfz6_0 := blk_frozen BK119.out 0; have hfz6_1 := blk_frozen BK119.out 1; have hfz6_2 := blk_frozen BK119.out 2; have hfz6_3 := blk_frozen BK119.out 3
   go_wp2_with (first | ((with_reducible refine gate_callee (f := 29) rfl ?_); refine goesL_ (some 11) rfl rfl Try.func29 (by kernel_rfl) rfl #[.int .i64 a0_0, .int .i64 a0_1, .int .i64 a0_2] rfl (by (try simp only [m3]); first | done | rfl | (simp only [d2]; rfl)) ?_; (with_reducible refine (impl_headOk.calls a0_0 a0_1 a0_2 true _ A4.out).mono ?_); rintro e w' ⟨rfl, ⟨nd, rfl⟩⟩; refine ⟨_, rfl, ?_⟩))
   go_meet
   case rel => exact ⟨_, (decide ((l0_3.length : Int) > 2000)), (by first | rfl | (simp; done) | (simp [*]; done) | (rw [Int.tmod_eq_emod_of_nonneg (Int.natCast_nonneg _)]; done)), H', ⟨by first | omega | exact Nat.le_refl _⟩, ⟨zB BK119.out⟩, ⟨zS HB.out⟩⟩
  ·replace c5 := Bool.eq_false_iff.mpr c5; subst c5
   have H1 : (impl_AutoOk.j0 k true a0_0 a0_1 a0_2 l0_3) = some r := by rw [if_neg (show ¬ (false = true) by decide)] at H; exact H
   clear H; have H := H1; clear H1; have H' := Aside0.mk H; clear H; have hcz7_0 : w3.cell? ⟨gb119, 0, none⟩ = some (.int .i64 a0_0) := b1 BK119 0; have hcz7_1 : w3.cell? ⟨gb119, 1, none⟩ = some (.int .i64 a0_1) := b1 BK119 1; have hcz7_2 : w3.cell? ⟨gb119, 2, none⟩ = some (.int .i64 a0_2) := b1 BK119 2; have hcz7_3 : w3.cell? ⟨gb119, 3, none⟩ = some (.slice A0_3 l0_3.length c0_3) := b1 BK119 3; have hfz7_0 := blk_frozen BK119.out 0; have hfz7_1 := blk_frozen BK119.out 1; have hfz7_2 := blk_frozen BK119.out 2; have hfz7_3 := blk_frozen BK119.out 3
   go_wp2_with (first | ((with_reducible refine gate_callee (f := 29) rfl ?_); refine goesL_ (some 11) rfl rfl Try.func29 (by kernel_rfl) rfl #[.int .i64 a0_0, .int .i64 a0_1, .int .i64 a0_2] rfl (by (try simp only [m3]); first | done | rfl | (simp only [d2]; rfl)) ?_; (with_reducible refine (impl_headOk.calls a0_0 a0_1 a0_2 false _ A4.out).mono ?_); rintro e w' ⟨rfl, ⟨nd, rfl⟩⟩; refine ⟨_, rfl, ?_⟩))
   go_meet
   case rel => exact ⟨_, (true), (by first | rfl | (simp; done) | (simp [*]; done) | (rw [Int.tmod_eq_emod_of_nonneg (Int.natCast_nonneg _)]; done)), H', ⟨by first | omega | exact Nat.le_refl _⟩, ⟨zB BK119.out⟩, ⟨zS HB.out⟩⟩
 case rest =>
  clear HC2
  try clear c2
  try clear p2
  try clear c5
  try clear hcz6_0
  try clear hcz6_1
  try clear hcz6_2
  try clear hcz6_3
  try clear hcz7_0
  try clear hcz7_1
  try clear hcz7_2
  try clear hcz7_3
  try clear hfz6_0
  try clear hfz6_1
  try clear hfz6_2
  try clear hfz6_3
  try clear hfz7_0
  try clear hfz7_1
  try clear hfz7_2
  try clear hfz7_3
  obtain ⟨kq, x18_1, rfl, HA, HJ1, BK119, HB⟩ := hcut
  cases kq with
  | zero => exact absurd HA.out (by simp [impl_AutoOk.j0])
  | succ kj1 =>
   have H := HA.out; clear HA; simp only [impl_AutoOk.j0] at H
   by_cases c8 : x18_1 = true
   ·subst c8
    have H1 : (some false) = some r := by rw [if_pos rfl] at H; exact H
    clear H; have H := H1; clear H1; obtain rfl := Option.some.inj H
    go_wp2
    go_ret; exact ⟨by first | rfl | (simp [errW_none, errW_some] <;> rfl) | (simp [*, errW_none, errW_some] <;> rfl), by repeat (first | (with_reducible first | exact HB.out | apply below_alloc | apply pw_below_drewN | apply below_drew1 | refine below_set ?_ GE119.out) | exact HB.out)⟩
   ·replace c8 := Bool.eq_false_iff.mpr c8; subst c8
    have H1 : (impl_AutoOk.l0 kj1 l0_3 (l0_3.length : Int) 0 a0_0 a0_1 a0_2 l0_3) = some r := by rw [if_neg (show ¬ (false = true) by decide)] at H; exact H
    clear H; have H := H1; clear H1; have H' := Aside0.mk H; clear H; have hcz9_0 : wc.cell? ⟨gb119, 0, none⟩ = some (.int .i64 a0_0) := b1 BK119 0; have hcz9_1 : wc.cell? ⟨gb119, 1, none⟩ = some (.int .i64 a0_1) := b1 BK119 1; have hcz9_2 : wc.cell? ⟨gb119, 2, none⟩ = some (.int .i64 a0_2) := b1 BK119 2; have hcz9_3 : wc.cell? ⟨gb119, 3, none⟩ = some (.slice A0_3 l0_3.length c0_3) := b1 BK119 3; have hfz9_0 := blk_frozen BK119.out 0; have hfz9_1 := blk_frozen BK119.out 1; have hfz9_2 := blk_frozen BK119.out 2; have hfz9_3 := blk_frozen BK119.out 3
    go_wp2
    go_loopg [22] kj1 (fun kq v22 w' => ∃ (x22_2 : Int), v22 = .int .i64 x22_2 ∧ Aside0 (impl_AutoOk.l0 kq l0_3 (l0_3.length : Int) x22_2 a0_0 a0_1 a0_2 l0_3 = some r) ∧ Aside0 (kq ≤ kj1) ∧ Aside0 (w'.heap[gb119]? = some (.cells #[.int .i64 a0_0, .int .i64 a0_1, .int .i64 a0_2, (.slice A0_3 l0_3.length c0_3)] 28 (0, 0))) ∧ Aside0 (Below w.heap.size w w'))
    case atStart => exact ⟨(0), (by first | rfl | (simp; done) | (simp [*]; done) | (rw [Int.tmod_eq_emod_of_nonneg (Int.natCast_nonneg _)]; done)), H', ⟨Nat.le_refl _⟩, ⟨zB BK119.out⟩, ⟨zS HB.out⟩⟩
    case round =>
     clear H'
     try clear c2
     try clear p2
     try clear c5
     try clear c8
     try clear c9
     try clear hcz6_0
     try clear hcz6_1
     try clear hcz6_2
     try clear hcz6_3
     try clear hcz7_0
     try clear hcz7_1
     try clear hcz7_2
     try clear hcz7_3
     try clear hcz9_0
     try clear hcz9_1
     try clear hcz9_2
     try clear hcz9_3
     try clear hfz6_0
     try clear hfz6_1
     try clear hfz6_2
     try clear hfz6_3
     try clear hfz7_0
     try clear hfz7_1
     try clear hfz7_2
     try clear hfz7_3
     try clear hfz9_0
     try clear hfz9_1
     try clear hfz9_2
     try clear hfz9_3
     try clear p2
     obtain ⟨x22_2, rfl, HA, HK2, BK119, HB⟩ := hrel
     cases gk with
     | zero => exact absurd HA.out (by simp [impl_AutoOk.l0])
     | succ k2 =>
      have H := HA.out; clear HA; simp only [impl_AutoOk.l0] at H
      by_cases c10 : x22_2 < (l0_3.length : Int)
      ·rw [if_pos c10] at H; have c10b0 : decide (x22_2 < (l0_3.length : Int)) = true := decide_eq_true c10; clear c10
       by_cases c11 : 0 ≤ x22_2
       ·rw [if_pos c11] at H; have c11b0 : decide (0 ≤ x22_2) = true := decide_eq_true c11; clear c11
        by_cases c12 : x22_2 < (l0_3.length : Int)
        ·rw [if_pos c12] at H; have c12b0 : decide (x22_2 < (l0_3.length : Int)) = true := decide_eq_true c12; clear c12; have HC13 := Aside0.mk H; clear H; have p121 : 0 ≤ (x22_2 : Int) := of_decide_eq_true (by first | (with_reducible assumption) | assumption); have q121 : x22_2 < (l0_3.length : Int) := of_decide_eq_true (by first | (with_reducible assumption) | assumption); obtain ⟨ad121, e121, hx121_0, hx121_1, hx121_2, hx121_3⟩ := at_T33 HR0_3.out x22_2 p121 q121
         cases e121
         replace hx121_0 := (HB.out.cell (World.block_lt_of_cell? w _ hx121_0)).trans hx121_0; replace hx121_1 := (HB.out.cell (World.block_lt_of_cell? w _ hx121_1)).trans hx121_1; replace hx121_2 := (HB.out.cell (World.block_lt_of_cell? w _ hx121_2)).trans hx121_2; replace hx121_3 := (HB.out.cell (World.block_lt_of_cell? w _ hx121_3)).trans hx121_3; replace p121 := eq_true p121; replace q121 := eq_true q121
         go_upto_region 6 with (first | ((with_reducible refine gate_dst (N := 4) rfl ?_); (try (refine gate_guard (by rfl) ?_; dsimp only)); refine box_event ?hg (N := 4) ?hd (cs := #[.int .i64 0, .int .i64 0, .int .i64 0, .bool false]) (t := 33) ?hr ?_; (case hd => rfl); (case hg => rfl); (case hr => first | (go_simp; done) | (go_simp; rfl)); intro gb122 hg w14 hbox hb; have BK122 := Aside0.mk (hbox); have GW122 := xG HB hg; have GE122 := xG HB hg; replace HB := xS HB hb; have NB119_122 := xN BK119 hg; have NB122_119 := xM BK119 hg; replace BK119 := xB BK119 hb; clear hb hbox hg; have hnb15 := NB122_119.out; have hnc15 := NB119_122.out; have hcz16_0 : w14.cell? ⟨gb122, 0, none⟩ = some (.int .i64 0) := b1 BK122 0; have hcz16_1 : w14.cell? ⟨gb122, 1, none⟩ = some (.int .i64 0) := b1 BK122 1; have hcz16_2 : w14.cell? ⟨gb122, 2, none⟩ = some (.int .i64 0) := b1 BK122 2; have hcz16_3 : w14.cell? ⟨gb122, 3, none⟩ = some (.bool false) := b1 BK122 3; have hfz16_0 := blk_frozen BK122.out 0; have hfz16_1 := blk_frozen BK122.out 1; have hfz16_2 := blk_frozen BK122.out 2; have hfz16_3 := blk_frozen BK122.out 3))
         (try simp only [Act.put, q3])
         go_cut [51] (fun v51 wc => ∃ (kq : Nat) (x51_12 : Bool), v51 = .bool x51_12 ∧ Aside0 (impl_AutoOk.j2 kq x22_2 l0_3 (l0_3.length : Int) x22_2 x51_12 a0_0 a0_1 a0_2 l0_3 ((rd_T33 l0_3 x22_2).f0) ((rd_T33 l0_3 x22_2).f1) ((rd_T33 l0_3 x22_2).f2) ((rd_T33 l0_3 x22_2).f3) = some r) ∧ Aside0 (kq ≤ k2) ∧ Aside0 (wc.heap[gb119]? = some (.cells #[.int .i64 a0_0, .int .i64 a0_1, .int .i64 a0_2, (.slice (some ad121) l0_3.length c0_3)] 28 (0, 0))) ∧ Aside0 (wc.heap[gb122]? = some (.cells #[.int .i64 ((rd_T33 l0_3 x22_2).f0), .int .i64 ((rd_T33 l0_3 x22_2).f1), .int .i64 ((rd_T33 l0_3 x22_2).f2), .bool ((rd_T33 l0_3 x22_2).f3)] 33 (0, 0))) ∧ Aside0 (Below w.heap.size w wc))
         case first =>
          have H := HC13.out; clear HC13; replace H := Option.bind_eq_some_iff.mp H; obtain ⟨t123, A170, H⟩ := H; replace H : (if t123 = true then ((impl_inRange.f ((rd_T33 l0_3 x22_2).f2) 0 (wrap64 (a0_1 - 1))).bind fun t124 => (if t124 = true then ((impl_inRange.f ((rd_T33 l0_3 x22_2).f1) 0 (wrap64 (a0_0 - 1))).bind fun t125 => (impl_AutoOk.j2 k2 x22_2 l0_3 (l0_3.length : Int) x22_2 (!t125) a0_0 a0_1 a0_2 l0_3 ((rd_T33 l0_3 x22_2).f0) ((rd_T33 l0_3 x22_2).f1) ((rd_T33 l0_3 x22_2).f2) ((rd_T33 l0_3 x22_2).f3))) else (impl_AutoOk.j2 k2 x22_2 l0_3 (l0_3.length : Int) x22_2 true a0_0 a0_1 a0_2 l0_3 ((rd_T33 l0_3 x22_2).f0) ((rd_T33 l0_3 x22_2).f1) ((rd_T33 l0_3 x22_2).f2) ((rd_T33 l0_3 x22_2).f3)))) else (impl_AutoOk.j2 k2 x22_2 l0_3 (l0_3.length : Int) x22_2 true a0_0 a0_1 a0_2 l0_3 ((rd_T33 l0_3 x22_2).f0) ((rd_T33 l0_3 x22_2).f1) ((rd_T33 l0_3 x22_2).f2) ((rd_T33 l0_3 x22_2).f3))) = some r := H; have A17 := Aside0.mk A170; clear A170
          by_cases c18 : t123 = true
          ·subst c18
           have H1 : ((impl_inRange.f ((rd_T33 l0_3 x22_2).f2) 0 (wrap64 (a0_1 - 1))).bind fun t124 => (if t124 = true then ((impl_inRange.f ((rd_T33 l0_3 x22_2).f1) 0 (wrap64 (a0_0 - 1))).bind fun t125 => (impl_AutoOk.j2 k2 x22_2 l0_3 (l0_3.length : Int) x22_2 (!t125) a0_0 a0_1 a0_2 l0_3 ((rd_T33 l0_3 x22_2).f0) ((rd_T33 l0_3 x22_2).f1) ((rd_T33 l0_3 x22_2).f2) ((rd_T33 l0_3 x22_2).f3))) else (impl_AutoOk.j2 k2 x22_2 l0_3 (l0_3.length : Int) x22_2 true a0_0 a0_1 a0_2 l0_3 ((rd_T33 l0_3 x22_2).f0) ((rd_T33 l0_3 x22_2).f1) ((rd_T33 l0_3 x22_2).f2) ((rd_T33 l0_3 x22_2).f3)))) = some r := by rw [if_pos rfl] at H; exact H
           clear H; have H := H1; clear H1; replace H := Option.bind_eq_some_iff.mp H; obtain ⟨t124, A190, H⟩ := H; replace H : (if t124 = true then ((impl_inRange.f ((rd_T33 l0_3 x22_2).f1) 0 (wrap64 (a0_0 - 1))).bind fun t125 => (impl_AutoOk.j2 k2 x22_2 l0_3 (l0_3.length : Int) x22_2 (!t125) a0_0 a0_1 a0_2 l0_3 ((rd_T33 l0_3 x22_2).f0) ((rd_T33 l0_3 x22_2).f1) ((rd_T33 l0_3 x22_2).f2) ((rd_T33 l0_3 x22_2).f3))) else (impl_AutoOk.j2 k2 x22_2 l0_3 (l0_3.length : Int) x22_2 true a0_0 a0_1 a0_2 l0_3 ((rd_T33 l0_3 x22_2).f0) ((rd_T33 l0_3 x22_2).f1) ((rd_T33 l0_3 x22_2).f2) ((rd_T33 l0_3 x22_2).f3))) = some r := H; have A19 := Aside0.mk A190; clear A190
           by_cases c20 : t124 = true
           ·subst c20
            have H1 : ((impl_inRange.f ((rd_T33 l0_3 x22_2).f1) 0 (wrap64 (a0_0 - 1))).bind fun t125 => (impl_AutoOk.j2 k2 x22_2 l0_3 (l0_3.length : Int) x22_2 (!t125) a0_0 a0_1 a0_2 l0_3 ((rd_T33 l0_3 x22_2).f0) ((rd_T33 l0_3 x22_2).f1) ((rd_T33 l0_3 x22_2).f2) ((rd_T33 l0_3 x22_2).f3))) = some r := by rw [if_pos rfl] at H; exact H
            clear H; have H := H1; clear H1; replace H := Option.bind_eq_some_iff.mp H; obtain ⟨t125, A210, H⟩ := H; replace H : (impl_AutoOk.j2 k2 x22_2 l0_3 (l0_3.length : Int) x22_2 (!t125) a0_0 a0_1 a0_2 l0_3 ((rd_T33 l0_3 x22_2).f0) ((rd_T33 l0_3 x22_2).f1) ((rd_T33 l0_3 x22_2).f2) ((rd_T33 l0_3 x22_2).f3)) = some r := H; have A21 := Aside0.mk A210; clear A210; have H' := Aside0.mk H; clear H; have hnb22 := NB122_119.out; have hnc22 := NB119_122.out; have hcz23_0 : w14.cell? ⟨gb122, 0, none⟩ = some (.int .i64 0) := b1 BK122 0; have hcz23_1 : w14.cell? ⟨gb122, 1, none⟩ = some (.int .i64 0) := b1 BK122 1; have hcz23_2 : w14.cell? ⟨gb122, 2, none⟩ = some (.int .i64 0) := b1 BK122 2; have hcz23_3 : w14.cell? ⟨gb122, 3, none⟩ = some (.bool false) := b1 BK122 3; have hfz23_0 := blk_frozen BK122.out 0; have hfz23_1 := blk_frozen BK122.out 1; have hfz23_2 := blk_frozen BK122.out 2; have hfz23_3 := blk_frozen BK122.out 3; have hcz24_0 : w14.cell? ⟨gb119, 0, none⟩ = some (.int .i64 a0_0) := b1 BK119 0; have hcz24_1 : w14.cell? ⟨gb119, 1, none⟩ = some (.int .i64 a0_1) := b1 BK119 1; have hcz24_2 : w14.cell? ⟨gb119, 2, none⟩ = some (.int .i64 a0_2) := b1 BK119 2; have hcz24_3 : w14.cell? ⟨gb119, 3, none⟩ = some (.slice (some ad121) l0_3.length c0_3) := b1 BK119 3; have hfz24_0 := blk_frozen BK119.out 0; have hfz24_1 := blk_frozen BK119.out 1; have hfz24_2 := blk_frozen BK119.out 2; have hfz24_3 := blk_frozen BK119.out 3
            go_wp2_with (first | ((with_reducible refine gate_callee (f := 30) rfl ?_); refine goesL_ (some 32) rfl rfl Try.func30 (by kernel_rfl) rfl #[.int .i64 ((rd_T33 l0_3 x22_2).f0), .int .i64 0, .int .i64 (wrap64 (a0_1 - 1))] rfl (by (try simp only [m3]); first | done | rfl | (simp only [d2]; rfl)) ?_; (with_reducible refine (impl_inRange.calls ((rd_T33 l0_3 x22_2).f0) 0 (wrap64 (a0_1 - 1)) true _ A17.out).mono ?_); rintro e w' ⟨rfl, ⟨nd, rfl⟩⟩; refine ⟨_, rfl, ?_⟩) | (go_at_call 30; (with_reducible refine (impl_inRange.calls ((rd_T33 l0_3 x22_2).f2) 0 (wrap64 (a0_1 - 1)) true _ A19.out).mono ?_); rintro e w' ⟨rfl, ⟨nd, rfl⟩⟩) | (go_at_call 30; (with_reducible refine (impl_inRange.calls ((rd_T33 l0_3 x22_2).f1) 0 (wrap64 (a0_0 - 1)) t125 _ A21.out).mono ?_); rintro e w' ⟨rfl, ⟨nd, rfl⟩⟩))
            go_meet
            case rel => exact ⟨_, (!t125), (by first | rfl | (simp; done) | (simp [*]; done) | (rw [Int.tmod_eq_emod_of_nonneg (Int.natCast_nonneg _)]; done)), H', ⟨by have := HJ1.out; have := HK2.out; first | omega | exact Nat.le_refl _⟩, ⟨zB BK119.out⟩, ⟨by (with_reducible repeat (first | refine blk_drewN ?_ _ | refine blk_drew ?_ | refine blk_alloc ?_ _)); refine blk_put (cs := #[.int .i64 ((rd_T33 l0_3 x22_2).f0), .int .i64 ((rd_T33 l0_3 x22_2).f1), .int .i64 ((rd_T33 l0_3 x22_2).f2), .bool false]) ?_ 3 _ rfl; (with_reducible repeat (first | refine blk_drewN ?_ _ | refine blk_drew ?_ | refine blk_alloc ?_ _)); refine blk_put (cs := #[.int .i64 ((rd_T33 l0_3 x22_2).f0), .int .i64 ((rd_T33 l0_3 x22_2).f1), .int .i64 0, .bool false]) ?_ 2 _ rfl; (with_reducible repeat (first | refine blk_drewN ?_ _ | refine blk_drew ?_ | refine blk_alloc ?_ _)); refine blk_put (cs := #[.int .i64 ((rd_T33 l0_3 x22_2).f0), .int .i64 0, .int .i64 0, .bool false]) ?_ 1 _ rfl; (with_reducible repeat (first | refine blk_drewN ?_ _ | refine blk_drew ?_ | refine blk_alloc ?_ _)); refine blk_put (cs := #[.int .i64 0, .int .i64 0, .int .i64 0, .bool false]) ?_ 0 _ rfl; (with_reducible repeat (first | refine blk_drewN ?_ _ | refine blk_drew ?_ | refine blk_alloc ?_ _)); exact BK122.out⟩, ⟨zS HB.out⟩⟩
           ·replace c20 := Bool.eq_false_iff.mpr c20; subst c20
            have H1 : (impl_AutoOk.j2 k2 x22_2 l0_3 (l0_3.length : Int) x22_2 true a0_0 a0_1 a0_2 l0_3 ((rd_T33 l0_3 x22_2).f0) ((rd_T33 l0_3 x22_2).f1) ((rd_T33 l0_3 x22_2).f2) ((rd_T33 l0_3 x22_2).f3)) = some r := by rw [if_neg (show ¬ (false = true) by decide)] at H; exact H
            clear H; have H := H1; clear H1; have H' := Aside0.mk H; clear H; have hnb25 := NB122_119.out; have hnc25 := NB119_122.out; have hcz26_0 : w14.cell? ⟨gb122, 0, none⟩ = some (.int .i64 0) := b1 BK122 0; have hcz26_1 : w14.cell? ⟨gb122, 1, none⟩ = some (.int .i64 0) := b1 BK122 1; have hcz26_2 : w14.cell? ⟨gb122, 2, none⟩ = some (.int .i64 0) := b1 BK122 2; have hcz26_3 : w14.cell? ⟨gb122, 3, none⟩ = some (.bool false) := b1 BK122 3; have hfz26_0 := blk_frozen BK122.out 0; have hfz26_1 := blk_frozen BK122.out 1; have hfz26_2 := blk_frozen BK122.out 2; have hfz26_3 := blk_frozen BK122.out 3; have hcz27_0 : w14.cell? ⟨gb119, 0, none⟩ = some (.int .i64 a0_0) := b1 BK119 0; have hcz27_1 : w14.cell? ⟨gb119, 1, none⟩ = some (.int .i64 a0_1) := b1 BK119 1; have hcz27_2 : w14.cell? ⟨gb119, 2, none⟩ = some (.int .i64 a0_2) := b1 BK119 2; have hcz27_3 : w14.cell? ⟨gb119, 3, none⟩ = some (.slice (some ad121) l0_3.length c0_3) := b1 BK119 3; have hfz27_0 := blk_frozen BK119.out 0; have hfz27_1 := blk_frozen BK119.out 1; have hfz27_2 := blk_frozen BK119.out 2; have hfz27_3 := blk_frozen BK119.out 3
            go_wp2_with (first | ((with_reducible refine gate_callee (f := 30) rfl ?_); refine goesL_ (some 32) rfl rfl Try.func30 (by kernel_rfl) rfl #[.int .i64 ((rd_T33 l0_3 x22_2).f0), .int .i64 0, .int .i64 (wrap64 (a0_1 - 1))] rfl (by (try simp only [m3]); first | done | rfl | (simp only [d2]; rfl)) ?_; (with_reducible refine (impl_inRange.calls ((rd_T33 l0_3 x22_2).f0) 0 (wrap64 (a0_1 - 1)) true _ A17.out).mono ?_); rintro e w' ⟨rfl, ⟨nd, rfl⟩⟩; refine ⟨_, rfl, ?_⟩) | (go_at_call 30; (with_reducible refine (impl_inRange.calls ((rd_T33 l0_3 x22_2).f2) 0 (wrap64 (a0_1 - 1)) false _ A19.out).mono ?_); rintro e w' ⟨rfl, ⟨nd, rfl⟩⟩))
            go_meet
            case rel => exact ⟨_, (true), (by first | rfl | (simp; done) | (simp [*]; done) | (rw [Int.tmod_eq_emod_of_nonneg (Int.natCast_nonneg _)]; done)), H', ⟨by have := HJ1.out; have := HK2.out; first | omega | exact Nat.le_refl _⟩, ⟨zB BK119.out⟩, ⟨by (with_reducible repeat (first | refine blk_drewN ?_ _ | refine blk_drew ?_ | refine blk_alloc ?_ _)); refine blk_put (cs := #[.int .i64 ((rd_T33 l0_3 x22_2).f0), .int .i64 ((rd_T33 l0_3 x22_2).f1), .int .i64 ((rd_T33 l0_3 x22_2).f2), .bool false]) ?_ 3 _ rfl; (with_reducible repeat (first | refine blk_drewN ?_ _ | refine blk_drew ?_ | refine blk_alloc ?_ _)); refine blk_put (cs := #[.int .i64 ((rd_T33 l0_3 x22_2).f0), .int .i64 ((rd_T33 l0_3 x22_2).f1), .int .i64 0, .bool false]) ?_ 2 _ rfl; (with_reducible repeat (first | refine blk_drewN ?_ _ | refine blk_drew ?_ | refine blk_alloc ?_ _)); refine blk_put (cs := #[.int .i64 ((rd_T33 l0_3 x22_2).f0), .int .i64 0, .int .i64 0, .bool false]) ?_ 1 _ rfl; (with_reducible repeat (first | refine blk_drewN ?_ _ | refine blk_drew ?_ | refine blk_alloc ?_ _)); refine blk_put (cs := #[.int .i64 0, .int .i64 0, .int .i64 0, .bool false]) ?_ 0 _ rfl; (with_reducible repeat (first | refine blk_drewN ?_ _ | refine blk_drew ?_ | refine blk_alloc ?_ _)); exact BK122.out⟩, ⟨zS HB.out⟩⟩
          ·replace c18 := Bool.eq_false_iff.mpr c18; subst c18
           have H1 : (impl_AutoOk.j2 k2 x22_2 l0_3 (l0_3.length : Int) x22_2 true a0_0 a0_1 a0_2 l0_3 ((rd_T33 l0_3 x22_2).f0) ((rd_T33 l0_3 x22_2).f1) ((rd_T33 l0_3 x22_2).f2) ((rd_T33 l0_3 x22_2).f3)) = some r := by rw [if_neg (show ¬ (false = true) by decide)] at H; exact H
           clear H; have H := H1; clear H1; have H' := Aside0.mk H; clear H; have hnb28 := NB122_119.out; have hnc28 := NB119_122.out; have hcz29_0 : w14.cell? ⟨gb122, 0, none⟩ = some (.int .i64 0) := b1 BK122 0; have hcz29_1 : w14.cell? ⟨gb122, 1, none⟩ = some (.int .i64 0) := b1 BK122 1; have hcz29_2 : w14.cell? ⟨gb122, 2, none⟩ = some (.int .i64 0) := b1 BK122 2; have hcz29_3 : w14.cell? ⟨gb122, 3, none⟩ = some (.bool false) := b1 BK122 3; have hfz29_0 := blk_frozen BK122.out 0; have hfz29_1 := blk_frozen BK122.out 1; have hfz29_2 := blk_frozen BK122.out 2; have hfz29_3 := blk_frozen BK122.out 3; have hcz30_0 : w14.cell? ⟨gb119, 0, none⟩ = some (.int .i64 a0_0) := b1 BK119 0; have hcz30_1 : w14.cell? ⟨gb119, 1, none⟩ = some (.int .i64 a0_1) := b1 BK119 1; have hcz30_2 : w14.cell? ⟨gb119, 2, none⟩ = some (.int .i64 a0_2) := b1 BK119 2; have hcz30_3 : w14.cell? ⟨gb119, 3, none⟩ = some (.slice (some ad121) l0_3.length c0_3) := b1 BK119 3; have hfz30_0 := blk_frozen BK119.out 0; have hfz30_1 := blk_frozen BK119.out 1; have hfz30_2 := blk_frozen BK119.out 2; have hfz30_3 := blk_frozen BK119.out 3
           go_wp2_with (first | ((with_reducible refine gate_callee (f := 30) rfl ?_); refine goesL_ (some 32) rfl rfl Try.func30 (by kernel_rfl) rfl #[.int .i64 ((rd_T33 l0_3 x22_2).f0), .int .i64 0, .int .i64 (wrap64 (a0_1 - 1))] rfl (by (try simp only [m3]); first | done | rfl | (simp only [d2]; rfl)) ?_; (with_reducible refine (impl_inRange.calls ((rd_T33 l0_3 x22_2).f0) 0 (wrap64 (a0_1 - 1)) false _ A17.out).mono ?_); rintro e w' ⟨rfl, ⟨nd, rfl⟩⟩; refine ⟨_, rfl, ?_⟩))
           go_meet
           case rel => exact ⟨_, (true), (by first | rfl | (simp; done) | (simp [*]; done) | (rw [Int.tmod_eq_emod_of_nonneg (Int.natCast_nonneg _)]; done)), H', ⟨by have := HJ1.out; have := HK2.out; first | omega | exact Nat.le_refl _⟩, ⟨zB BK119.out⟩, ⟨by (with_reducible repeat (first | refine blk_drewN ?_ _ | refine blk_drew ?_ | refine blk_alloc ?_ _)); refine blk_put (cs := #[.int .i64 ((rd_T33 l0_3 x22_2).f0), .int .i64 ((rd_T33 l0_3 x22_2).f1), .int .i64 ((rd_T33 l0_3 x22_2).f2), .bool false]) ?_ 3 _ rfl; (with_reducible repeat (first | refine blk_drewN ?_ _ | refine blk_drew ?_ | refine blk_alloc ?_ _)); refine blk_put (cs := #[.int .i64 ((rd_T33 l0_3 x22_2).f0), .int .i64 ((rd_T33 l0_3 x22_2).f1), .int .i64 0, .bool false]) ?_ 2 _ rfl; (with_reducible repeat (first | refine blk_drewN ?_ _ | refine blk_drew ?_ | refine blk_alloc ?_ _)); refine blk_put (cs := #[.int .i64 ((rd_T33 l0_3 x22_2).f0), .int .i64 0, .int .i64 0, .bool false]) ?_ 1 _ rfl; (with_reducible repeat (first | refine blk_drewN ?_ _ | refine blk_drew ?_ | refine blk_alloc ?_ _)); refine blk_put (cs := #[.int .i64 0, .int .i64 0, .int .i64 0, .bool false]) ?_ 0 _ rfl; (with_reducible repeat (first | refine blk_drewN ?_ _ | refine blk_drew ?_ | refine blk_alloc ?_ _)); exact BK122.out⟩, ⟨zS HB.out⟩⟩
         case rest =>
          clear HC13
          try clear c1
          try clear p1
          try clear q1
          try clear hx1
          try clear c2
          try clear p2
          try clear c3
          try clear c5
          try clear p6
          try clear c8
          try clear c9
          try clear c10
          try clear c10b0
          try clear c11
          try clear c11b0
          try clear c12
          try clear c12b0
          try clear p12
          try clear q12
          try clear hx12
          try clear c15
          try clear c18
          try clear c20
          try clear c22
          try clear c25
          try clear c28
          try clear c29
          try clear c30
          try clear hcz16_0
          try clear hcz16_1
          try clear hcz16_2
          try clear hcz16_3
          try clear hcz23_0
          try clear hcz23_1
          try clear hcz23_2
          try clear hcz23_3
          try clear hcz24_0
          try clear hcz24_1
          try clear hcz24_2
          try clear hcz24_3
          try clear hcz26_0
          try clear hcz26_1
          try clear hcz26_2
          try clear hcz26_3
          try clear hcz27_0
          try clear hcz27_1
          try clear hcz27_2
          try clear hcz27_3
          try clear hcz29_0
          try clear hcz29_1
          try clear hcz29_2
          try clear hcz29_3
          try clear hcz30_0
          try clear hcz30_1
          try clear hcz30_2
          try clear hcz30_3
          try clear hcz6_0
          try clear hcz6_1
          try clear hcz6_2
          try clear hcz6_3
          try clear hcz7_0
          try clear hcz7_1
          try clear hcz7_2
          try clear hcz7_3
          try clear hcz9_0
          try clear hcz9_1
          try clear hcz9_2
          try clear hcz9_3
          try clear hfz16_0
          try clear hfz16_1
          try clear hfz16_2
          try clear hfz16_3
          try clear hfz23_0
          try clear hfz23_1
          try clear hfz23_2
          try clear hfz23_3
          try clear hfz24_0
          try clear hfz24_1
          try clear hfz24_2
          try clear hfz24_3
          try clear hfz26_0
          try clear hfz26_1
          try clear hfz26_2
          try clear hfz26_3
          try clear hfz27_0
          try clear hfz27_1
          try clear hfz27_2
          try clear hfz27_3
          try clear hfz29_0
          try clear hfz29_1
          try clear hfz29_2
          try clear hfz29_3
          try clear hfz30_0
          try clear hfz30_1
          try clear hfz30_2
          try clear hfz30_3
          try clear hfz6_0
          try clear hfz6_1
          try clear hfz6_2
          try clear hfz6_3
          try clear hfz7_0
          try clear hfz7_1
          try clear hfz7_2
          try clear hfz7_3
          try clear hfz9_0
          try clear hfz9_1
          try clear hfz9_2
          try clear hfz9_3
          try clear hx121_0
          try clear hx121_1
          try clear hx121_2
          try clear hx121_3
          try clear p121
          try clear p2
          try clear q121
          obtain ⟨kq, x51_12, rfl, HA, HJ12, BK119, BK122, HB⟩ := hcut
          cases kq with
          | zero => exact absurd HA.out (by simp [impl_AutoOk.j2])
          | succ kj12 =>
           have H := HA.out; clear HA; simp only [impl_AutoOk.j2] at H
           by_cases c31 : x51_12 = true
           ·subst c31
            have H1 : (some false) = some r := by rw [if_pos rfl] at H; exact H
            clear H; have H := H1; clear H1; obtain rfl := Option.some.inj H
            go_wp2
            go_ret; exact ⟨by first | rfl | (simp [errW_none, errW_some] <;> rfl) | (simp [*, errW_none, errW_some] <;> rfl), by repeat (first | (with_reducible first | exact HB.out | apply below_alloc | apply pw_below_drewN | apply below_drew1 | refine below_set ?_ GE119.out | refine below_set ?_ GE122.out) | exact HB.out)⟩
           ·replace c31 := Bool.eq_false_iff.mpr c31; subst c31
            have H1 : (if x22_2 > 0 then (if 0 ≤ (wrap64 (x22_2 - 1)) then (if (wrap64 (x22_2 - 1)) < (l0_3.length : Int) then ((impl_compareEdges.f kj12 ((rd_T33 l0_3 (wrap64 (x22_2 - 1))).f0) ((rd_T33 l0_3 (wrap64 (x22_2 - 1))).f1) ((rd_T33 l0_3 (wrap64 (x22_2 - 1))).f2) ((rd_T33 l0_3 (wrap64 (x22_2 - 1))).f3) ((rd_T33 l0_3 x22_2).f0) ((rd_T33 l0_3 x22_2).f1) ((rd_T33 l0_3 x22_2).f2) ((rd_T33 l0_3 x22_2).f3)).bind fun t127 => (if t127 ≥ 0 then (some false) else (impl_AutoOk.l0 kj12 l0_3 (l0_3.length : Int) (wrap64 (x22_2 + 1)) a0_0 a0_1 a0_2 l0_3))) else (none)) else (none)) else (impl_AutoOk.l0 kj12 l0_3 (l0_3.length : Int) (wrap64 (x22_2 + 1)) a0_0 a0_1 a0_2 l0_3)) = some r := by rw [if_neg (show ¬ (false = true) by decide)] at H; exact H
            clear H; have H := H1; clear H1
            by_cases c32 : x22_2 > 0
            ·rw [if_pos c32] at H; have c32b0 : decide (0 < x22_2) = true := decide_eq_true c32; clear c32; obtain ⟨ji33, hji33⟩ : ∃ j_ : Int, (wrap64 (x22_2 - 1)) = j_ := ⟨_, rfl⟩
             replace H : (if 0 ≤ (ji33) then (if (ji33) < (l0_3.length : Int) then ((impl_compareEdges.f kj12 ((rd_T33 l0_3 (ji33)).f0) ((rd_T33 l0_3 (ji33)).f1) ((rd_T33 l0_3 (ji33)).f2) ((rd_T33 l0_3 (ji33)).f3) ((rd_T33 l0_3 x22_2).f0) ((rd_T33 l0_3 x22_2).f1) ((rd_T33 l0_3 x22_2).f2) ((rd_T33 l0_3 x22_2).f3)).bind fun t127 => (if t127 ≥ 0 then (some false) else (impl_AutoOk.l0 kj12 l0_3 (l0_3.length : Int) (wrap64 (x22_2 + 1)) a0_0 a0_1 a0_2 l0_3))) else (none)) else (none)) = some r := by first | (rw [hji33] at H; exact H) | (simp only [hji33] at H ⊢; exact H)
             have hji33w : (IntKind.i64.wrap (x22_2 - 1)) = ji33 := (i64_w _).trans hji33
             by_cases c34 : 0 ≤ (ji33)
             ·rw [if_pos c34] at H; have c34b0 : decide (0 ≤ (ji33)) = true := decide_eq_true c34; clear c34
              by_cases c35 : (ji33) < (l0_3.length : Int)
              ·rw [if_pos c35] at H; have c35b0 : decide ((ji33) < (l0_3.length : Int)) = true := decide_eq_true c35; clear c35; replace H := Option.bind_eq_some_iff.mp H; obtain ⟨t127, A360, H⟩ := H; replace H : (if t127 ≥ 0 then (some false) else (impl_AutoOk.l0 kj12 l0_3 (l0_3.length : Int) (wrap64 (x22_2 + 1)) a0_0 a0_1 a0_2 l0_3)) = some r := H; have A36 := Aside0.mk A360; clear A360
               by_cases c37 : t127 ≥ 0
               ·rw [if_pos c37] at H; have c37b0 : decide (0 ≤ t127) = true := decide_eq_true c37; clear c37; obtain rfl := Option.some.inj H
                try go_wp2
                replace BK119 := Aside0.mk (blk_drew BK119.out); replace BK122 := Aside0.mk (blk_drew BK122.out); replace HB := Aside0.mk (below_drew1 HB.out); have p126 : 0 ≤ ((ji33) : Int) := of_decide_eq_true (by first | (with_reducible assumption) | assumption); have q126 : (ji33) < (l0_3.length : Int) := of_decide_eq_true (by first | (with_reducible assumption) | assumption); obtain ⟨ad126, e126, hx126_0, hx126_1, hx126_2, hx126_3⟩ := at_T33 HR0_3.out (ji33) p126 q126; have hw126_3 := hx126_3; have hw126_2 := hx126_2; have hw126_1 := hx126_1; have hw126_0 := hx126_0; obtain rfl : ad121 = ad126 := (by injection e126); replace hx126_0 := (HB.out.cell (World.block_lt_of_cell? w _ hx126_0)).trans hx126_0; replace hx126_1 := (HB.out.cell (World.block_lt_of_cell? w _ hx126_1)).trans hx126_1; replace hx126_2 := (HB.out.cell (World.block_lt_of_cell? w _ hx126_2)).trans hx126_2; replace hx126_3 := (HB.out.cell (World.block_lt_of_cell? w _ hx126_3)).trans hx126_3; replace p126 := eq_true p126; replace q126 := eq_true q126; refine start_ (n := 13) (S := fun w' => w'.cell? ⟨gb119, 0, none⟩ = some (.int .i64 a0_0) ∧ w'.cell? ⟨gb119, 1, none⟩ = some (.int .i64 a0_1) ∧ w'.cell? ⟨gb119, 2, none⟩ = some (.int .i64 a0_2) ∧ w'.cell? ⟨gb119, 3, none⟩ = some (.slice (some ad121) l0_3.length c0_3) ∧ w'.cell? ⟨gb122, 0, none⟩ = some (.int .i64 ((rd_T33 l0_3 x22_2).f0)) ∧ w'.cell? ⟨gb122, 1, none⟩ = some (.int .i64 ((rd_T33 l0_3 x22_2).f1)) ∧ w'.cell? ⟨gb122, 2, none⟩ = some (.int .i64 ((rd_T33 l0_3 x22_2).f2)) ∧ w'.cell? ⟨gb122, 3, none⟩ = some (.bool ((rd_T33 l0_3 x22_2).f3)) ∧ w'.cell? (ad121.add (((ji33)).toNat * 4)) = some (.int .i64 ((rd_T33 l0_3 (ji33)).f0)) ∧ w'.cell? ⟨(ad121.add (((ji33)).toNat * 4)).block, (ad121.add (((ji33)).toNat * 4)).off + 1, none⟩ = some (.int .i64 ((rd_T33 l0_3 (ji33)).f1)) ∧ w'.cell? ⟨(ad121.add (((ji33)).toNat * 4)).block, (ad121.add (((ji33)).toNat * 4)).off + 2, none⟩ = some (.int .i64 ((rd_T33 l0_3 (ji33)).f2)) ∧ w'.cell? ⟨(ad121.add (((ji33)).toNat * 4)).block, (ad121.add (((ji33)).toNat * 4)).off + 3, none⟩ = some (.bool ((rd_T33 l0_3 (ji33)).f3))) (ds := []) bl0 (by kernel_rfl) rfl rfl ⟨b1 BK119 0, b1 BK119 1, b1 BK119 2, b1 BK119 3, b1 BK122 0, b1 BK122 1, b1 BK122 2, b1 BK122 3, ((HB.out.cell (World.block_lt_of_cell? w _ hw126_0)).trans hw126_0), ((HB.out.cell (World.block_lt_of_cell? w _ hw126_1)).trans hw126_1), ((HB.out.cell (World.block_lt_of_cell? w _ hw126_2)).trans hw126_2), ((HB.out.cell (World.block_lt_of_cell? w _ hw126_3)).trans hw126_3)⟩ (fun hHeld => ?_); refine with_tabW impl_AutoOk.tab8 impl_AutoOk.bits8 (fun HT_ HW_ => ?_); generalize wc.drew = w38 at BK119 BK122 HB hx126_0 hx126_1 hx126_2 hx126_3 hHeld ⊢
                refine pu 0 (some 52) bl1 HT_ ?_ rfl rfl (.inl ⟨by rfl, ?_⟩) ?_ ?_ ?_; rotate_left; (intro w'; go_simp; with_reducible rfl); rotate_left; (simp only [Act.put, q5]; rfl)
                refine pu 1 (some 53) bl2 HT_ ?_ rfl rfl (.inl ⟨by rfl, ?_⟩) ?_ ?_ ?_; rotate_left; (intro w'; go_simp; with_reducible rfl); rotate_left; (simp only [Act.put, q5]; rfl)
                refine pu 2 (some 54) bl3 HT_ ?_ rfl rfl (.inl ⟨by rfl, ?_⟩) ?_ ?_ ?_; rotate_left; (intro w'; go_simp; with_reducible rfl); rotate_left; (simp only [Act.put, q5]; rfl)
                refine pu 3 (some 55) bl4 HT_ ?_ rfl rfl (.inl ⟨by rfl, ?_⟩) ?_ ?_ ?_; rotate_left; (intro w'; go_simp; with_reducible rfl); rotate_left; (simp only [Act.put, q5]; rfl)
                refine pu 5 (some 57) bl5 HT_ ?_ rfl rfl (.inl ⟨by rfl, ?_⟩) ?_ ?_ ?_; rotate_left; (intro w'; go_simp; with_reducible rfl); rotate_left; (simp only [Act.put, q5]; rfl)
                refine pu 6 (some 58) bl6 HT_ ?_ rfl rfl (.inl ⟨by rfl, ?_⟩) ?_ ?_ ?_; rotate_left; (intro w'; go_simp; with_reducible rfl); rotate_left; (simp only [Act.put, q5]; rfl)
                refine take_ (i := 4) (N := some 56) (v := ?_) (a' := ?_) bl7 rfl rfl (take_ofW HT_.out HW_.out (by kernel_rfl)) (fun _ _ _ h => h) (Or.inl ⟨by rfl, ?_⟩) hHeld ?_ ?_; rotate_left
                ·rintro w' ⟨s0, s1, s2, s3, s4, s5, s6, s7, s8, s9, s10, s11⟩; go_simp; with_reducible rfl
                rotate_left
                ·simp only [Act.put, q5]; rfl
                refine pu 7 (some 59) bl8 HT_ ?_ rfl rfl (.inl ⟨by rfl, ?_⟩) ?_ ?_ ?_; rotate_left; (intro w'; go_simp; with_reducible rfl); rotate_left; (simp only [Act.put, q5]; rfl)
                refine take_ (i := 8) (N := some 60) (v := ?_) (a' := ?_) bl9 rfl rfl (take_ofW HT_.out HW_.out (by kernel_rfl)) (fun _ _ _ h => h) (Or.inl ⟨by rfl, ?_⟩) hHeld ?_ ?_; rotate_left
                ·rintro w' ⟨s0, s1, s2, s3, s4, s5, s6, s7, s8, s9, s10, s11⟩; go_simp; with_reducible rfl
                rotate_left
                ·simp only [Act.put, q5]; rfl
                refine take_ (i := 9) (N := some 61) (v := ?_) (a' := ?_) bl10 rfl rfl (take_ofW HT_.out HW_.out (by kernel_rfl)) (fun _ _ _ h => h) (Or.inl ⟨by rfl, ?_⟩) hHeld ?_ ?_; rotate_left
                ·rintro w' ⟨s0, s1, s2, s3, s4, s5, s6, s7, s8, s9, s10, s11⟩; go_simp; with_reducible rfl
                rotate_left
                ·simp only [Act.put, q5]; rfl
                refine one_ (i := 10) (N := some 62) bl11 rfl rfl (one_of HT_.out (by kernel_rfl)) (by decide) (fun K hK => ?_); refine goes_ Try.func31 (by kernel_rfl) rfl #[.agg #[.int .i64 ((rd_T33 l0_3 (ji33)).f0), .int .i64 ((rd_T33 l0_3 (ji33)).f1), .int .i64 ((rd_T33 l0_3 (ji33)).f2), .bool ((rd_T33 l0_3 (ji33)).f3)], .agg #[.int .i64 ((rd_T33 l0_3 x22_2).f0), .int .i64 ((rd_T33 l0_3 x22_2).f1), .int .i64 ((rd_T33 l0_3 x22_2).f2), .bool ((rd_T33 l0_3 x22_2).f3)]] (by rfl) rfl rfl (by (try simp only [m3]); first | done | (simp only [hji33]; rfl) | rfl | (simp only [d2]; rfl)) ?_
                with_reducible refine (impl_compareEdges.calls kj12 ((rd_T33 l0_3 (ji33)).f0) ((rd_T33 l0_3 (ji33)).f1) ((rd_T33 l0_3 (ji33)).f2) ((rd_T33 l0_3 (ji33)).f3) ((rd_T33 l0_3 x22_2).f0) ((rd_T33 l0_3 x22_2).f1) ((rd_T33 l0_3 x22_2).f2) ((rd_T33 l0_3 x22_2).f3) t127 _ A36.out).mono ?_
                rintro e w39 ⟨rfl, hb⟩; refine ⟨_, rfl, ?_⟩; replace BK119 := xB BK119 hb; replace BK122 := xB BK122 hb; replace HB := xS HB hb
                (try clear hb)
                (try clear hb2)
                (try clear hk)
                (try clear hi)
                refine hK.out _ _ ⟨b1 BK119 0, b1 BK119 1, b1 BK119 2, b1 BK119 3, b1 BK122 0, b1 BK122 1, b1 BK122 2, b1 BK122 3, ((HB.out.cell (World.block_lt_of_cell? w _ hw126_0)).trans hw126_0), ((HB.out.cell (World.block_lt_of_cell? w _ hw126_1)).trans hw126_1), ((HB.out.cell (World.block_lt_of_cell? w _ hw126_2)).trans hw126_2), ((HB.out.cell (World.block_lt_of_cell? w _ hw126_3)).trans hw126_3)⟩ (fun hHeld => ?_); clear hK K; refine norm_ (a' := ?_) ?_ ?_; rotate_left
                ·show Act.put _ (some 62) _ = _; simp only [Act.put, q5]; rfl
                refine pu 11 (some 63) bl12 HT_ ?_ rfl rfl (.inl ⟨by rfl, ?_⟩) ?_ ?_ ?_; rotate_left; (intro w'; go_simp; with_reducible rfl); rotate_left; (simp only [Act.put, q5]; rfl)
                refine pu 12 (some 64) bl13 HT_ ?_ rfl rfl (.inl ⟨by rfl, ?_⟩) ?_ ?_ ?_; rotate_left; (intro w'; go_simp; with_reducible rfl); rotate_left; (simp only [Act.put, q5]; rfl)
                refine done_ (done_of HT_.out (by kernel_rfl)) ?_
                try go_wp2
                go_ret; exact ⟨by first | rfl | (simp [errW_none, errW_some] <;> rfl) | (simp only [← hji33]; first | rfl | (simp [errW_none, errW_some] <;> rfl)) | (simp [*, errW_none, errW_some] <;> rfl), by repeat (first | (with_reducible first | exact HB.out | apply below_alloc | apply pw_below_drewN | apply below_drew1 | refine below_set ?_ GE119.out | refine below_set ?_ GE122.out) | exact HB.out)⟩
               ·rw [if_neg c37] at H; have c37b0 : decide (0 ≤ t127) = false := decide_eq_false c37; clear c37; have H' := Aside0.mk H; clear H
                try go_wp2
                replace BK119 := Aside0.mk (blk_drew BK119.out); replace BK122 := Aside0.mk (blk_drew BK122.out); replace HB := Aside0.mk (below_drew1 HB.out); have p126 : 0 ≤ ((ji33) : Int) := of_decide_eq_true (by first | (with_reducible assumption) | assumption); have q126 : (ji33) < (l0_3.length : Int) := of_decide_eq_true (by first | (with_reducible assumption) | assumption); obtain ⟨ad126, e126, hx126_0, hx126_1, hx126_2, hx126_3⟩ := at_T33 HR0_3.out (ji33) p126 q126; have hw126_3 := hx126_3; have hw126_2 := hx126_2; have hw126_1 := hx126_1; have hw126_0 := hx126_0; obtain rfl : ad121 = ad126 := (by injection e126); replace hx126_0 := (HB.out.cell (World.block_lt_of_cell? w _ hx126_0)).trans hx126_0; replace hx126_1 := (HB.out.cell (World.block_lt_of_cell? w _ hx126_1)).trans hx126_1; replace hx126_2 := (HB.out.cell (World.block_lt_of_cell? w _ hx126_2)).trans hx126_2; replace hx126_3 := (HB.out.cell (World.block_lt_of_cell? w _ hx126_3)).trans hx126_3; replace p126 := eq_true p126; replace q126 := eq_true q126; refine start_ (n := 13) (S := fun w' => w'.cell? ⟨gb119, 0, none⟩ = some (.int .i64 a0_0) ∧ w'.cell? ⟨gb119, 1, none⟩ = some (.int .i64 a0_1) ∧ w'.cell? ⟨gb119, 2, none⟩ = some (.int .i64 a0_2) ∧ w'.cell? ⟨gb119, 3, none⟩ = some (.slice (some ad121) l0_3.length c0_3) ∧ w'.cell? ⟨gb122, 0, none⟩ = some (.int .i64 ((rd_T33 l0_3 x22_2).f0)) ∧ w'.cell? ⟨gb122, 1, none⟩ = some (.int .i64 ((rd_T33 l0_3 x22_2).f1)) ∧ w'.cell? ⟨gb122, 2, none⟩ = some (.int .i64 ((rd_T33 l0_3 x22_2).f2)) ∧ w'.cell? ⟨gb122, 3, none⟩ = some (.bool ((rd_T33 l0_3 x22_2).f3)) ∧ w'.cell? (ad121.add (((ji33)).toNat * 4)) = some (.int .i64 ((rd_T33 l0_3 (ji33)).f0)) ∧ w'.cell? ⟨(ad121.add (((ji33)).toNat * 4)).block, (ad121.add (((ji33)).toNat * 4)).off + 1, none⟩ = some (.int .i64 ((rd_T33 l0_3 (ji33)).f1)) ∧ w'.cell? ⟨(ad121.add (((ji33)).toNat * 4)).block, (ad121.add (((ji33)).toNat * 4)).off + 2, none⟩ = some (.int .i64 ((rd_T33 l0_3 (ji33)).f2)) ∧ w'.cell? ⟨(ad121.add (((ji33)).toNat * 4)).block, (ad121.add (((ji33)).toNat * 4)).off + 3, none⟩ = some (.bool ((rd_T33 l0_3 (ji33)).f3))) (ds := []) bl0 (by kernel_rfl) rfl rfl ⟨b1 BK119 0, b1 BK119 1, b1 BK119 2, b1 BK119 3, b1 BK122 0, b1 BK122 1, b1 BK122 2, b1 BK122 3, ((HB.out.cell (World.block_lt_of_cell? w _ hw126_0)).trans hw126_0), ((HB.out.cell (World.block_lt_of_cell? w _ hw126_1)).trans hw126_1), ((HB.out.cell (World.block_lt_of_cell? w _ hw126_2)).trans hw126_2), ((HB.out.cell (World.block_lt_of_cell? w _ hw126_3)).trans hw126_3)⟩ (fun hHeld => ?_); refine with_tabW impl_AutoOk.tab8 impl_AutoOk.bits8 (fun HT_ HW_ => ?_); generalize wc.drew = w40 at BK119 BK122 HB hx126_0 hx126_1 hx126_2 hx126_3 hHeld ⊢
                refine pu 0 (some 52) bl1 HT_ ?_ rfl rfl (.inl ⟨by rfl, ?_⟩) ?_ ?_ ?_; rotate_left; (intro w'; go_simp; with_reducible rfl); rotate_left; (simp only [Act.put, q5]; rfl)
                refine pu 1 (some 53) bl2 HT_ ?_ rfl rfl (.inl ⟨by rfl, ?_⟩) ?_ ?_ ?_; rotate_left; (intro w'; go_simp; with_reducible rfl); rotate_left; (simp only [Act.put, q5]; rfl)
                refine pu 2 (some 54) bl3 HT_ ?_ rfl rfl (.inl ⟨by rfl, ?_⟩) ?_ ?_ ?_; rotate_left; (intro w'; go_simp; with_reducible rfl); rotate_left; (simp only [Act.put, q5]; rfl)
                refine pu 3 (some 55) bl4 HT_ ?_ rfl rfl (.inl ⟨by rfl, ?_⟩) ?_ ?_ ?_; rotate_left; (intro w'; go_simp; with_reducible rfl); rotate_left; (simp only [Act.put, q5]; rfl)
                refine pu 5 (some 57) bl5 HT_ ?_ rfl rfl (.inl ⟨by rfl, ?_⟩) ?_ ?_ ?_; rotate_left; (intro w'; go_simp; with_reducible rfl); rotate_left; (simp only [Act.put, q5]; rfl)
                refine pu 6 (some 58) bl6 HT_ ?_ rfl rfl (.inl ⟨by rfl, ?_⟩) ?_ ?_ ?_; rotate_left; (intro w'; go_simp; with_reducible rfl); rotate_left; (simp only [Act.put, q5]; rfl)
                refine take_ (i := 4) (N := some 56) (v := ?_) (a' := ?_) bl7 rfl rfl (take_ofW HT_.out HW_.out (by kernel_rfl)) (fun _ _ _ h => h) (Or.inl ⟨by rfl, ?_⟩) hHeld ?_ ?_; rotate_left
                ·rintro w' ⟨s0, s1, s2, s3, s4, s5, s6, s7, s8, s9, s10, s11⟩; go_simp; with_reducible rfl
                rotate_left
                ·simp only [Act.put, q5]; rfl
                refine pu 7 (some 59) bl8 HT_ ?_ rfl rfl (.inl ⟨by rfl, ?_⟩) ?_ ?_ ?_; rotate_left; (intro w'; go_simp; with_reducible rfl); rotate_left; (simp only [Act.put, q5]; rfl)
                refine take_ (i := 8) (N := some 60) (v := ?_) (a' := ?_) bl9 rfl rfl (take_ofW HT_.out HW_.out (by kernel_rfl)) (fun _ _ _ h => h) (Or.inl ⟨by rfl, ?_⟩) hHeld ?_ ?_; rotate_left
                ·rintro w' ⟨s0, s1, s2, s3, s4, s5, s6, s7, s8, s9, s10, s11⟩; go_simp; with_reducible rfl
                rotate_left
                ·simp only [Act.put, q5]; rfl
                refine take_ (i := 9) (N := some 61) (v := ?_) (a' := ?_) bl10 rfl rfl (take_ofW HT_.out HW_.out (by kernel_rfl)) (fun _ _ _ h => h) (Or.inl ⟨by rfl, ?_⟩) hHeld ?_ ?_; rotate_left
                ·rintro w' ⟨s0, s1, s2, s3, s4, s5, s6, s7, s8, s9, s10, s11⟩; go_simp; with_reducible rfl
                rotate_left
                ·simp only [Act.put, q5]; rfl
                refine one_ (i := 10) (N := some 62) bl11 rfl rfl (one_of HT_.out (by kernel_rfl)) (by decide) (fun K hK => ?_); refine goes_ Try.func31 (by kernel_rfl) rfl #[.agg #[.int .i64 ((rd_T33 l0_3 (ji33)).f0), .int .i64 ((rd_T33 l0_3 (ji33)).f1), .int .i64 ((rd_T33 l0_3 (ji33)).f2), .bool ((rd_T33 l0_3 (ji33)).f3)], .agg #[.int .i64 ((rd_T33 l0_3 x22_2).f0), .int .i64 ((rd_T33 l0_3 x22_2).f1), .int .i64 ((rd_T33 l0_3 x22_2).f2), .bool ((rd_T33 l0_3 x22_2).f3)]] (by rfl) rfl rfl (by (try simp only [m3]); first | done | (simp only [hji33]; rfl) | rfl | (simp only [d2]; rfl)) ?_
                with_reducible refine (impl_compareEdges.calls kj12 ((rd_T33 l0_3 (ji33)).f0) ((rd_T33 l0_3 (ji33)).f1) ((rd_T33 l0_3 (ji33)).f2) ((rd_T33 l0_3 (ji33)).f3) ((rd_T33 l0_3 x22_2).f0) ((rd_T33 l0_3 x22_2).f1) ((rd_T33 l0_3 x22_2).f2) ((rd_T33 l0_3 x22_2).f3) t127 _ A36.out).mono ?_
                rintro e w41 ⟨rfl, hb⟩; refine ⟨_, rfl, ?_⟩; replace BK119 := xB BK119 hb; replace BK122 := xB BK122 hb; replace HB := xS HB hb
                (try clear hb)
                (try clear hb2)
                (try clear hk)
                (try clear hi)
                refine hK.out _ _ ⟨b1 BK119 0, b1 BK119 1, b1 BK119 2, b1 BK119 3, b1 BK122 0, b1 BK122 1, b1 BK122 2, b1 BK122 3, ((HB.out.cell (World.block_lt_of_cell? w _ hw126_0)).trans hw126_0), ((HB.out.cell (World.block_lt_of_cell? w _ hw126_1)).trans hw126_1), ((HB.out.cell (World.block_lt_of_cell? w _ hw126_2)).trans hw126_2), ((HB.out.cell (World.block_lt_of_cell? w _ hw126_3)).trans hw126_3)⟩ (fun hHeld => ?_); clear hK K; refine norm_ (a' := ?_) ?_ ?_; rotate_left
                ·show Act.put _ (some 62) _ = _; simp only [Act.put, q5]; rfl
                refine pu 11 (some 63) bl12 HT_ ?_ rfl rfl (.inl ⟨by rfl, ?_⟩) ?_ ?_ ?_; rotate_left; (intro w'; go_simp; with_reducible rfl); rotate_left; (simp only [Act.put, q5]; rfl)
                refine pu 12 (some 64) bl13 HT_ ?_ rfl rfl (.inl ⟨by rfl, ?_⟩) ?_ ?_ ?_; rotate_left; (intro w'; go_simp; with_reducible rfl); rotate_left; (simp only [Act.put, q5]; rfl)
                refine done_ (done_of HT_.out (by kernel_rfl)) ?_
                try go_wp2
                (first | go_roundg kj12 | ((try simp only [← hji33]); go_roundg kj12))
                case measure => have := HJ1.out; have := HK2.out; have := HJ12.out; omega
                case rel => exact ⟨(wrap64 (x22_2 + 1)), (by first | rfl | (simp; done) | (simp [*]; done) | (rw [Int.tmod_eq_emod_of_nonneg (Int.natCast_nonneg _)]; done)), (by first | exact H' | (have h_ := H'; (try simp only [← hji33] at h_); (try simp only [← hji33]); exact h_)), ⟨by have := HJ1.out; have := HK2.out; have := HJ12.out; omega⟩, ⟨zB BK119.out⟩, ⟨zS HB.out⟩⟩
              ·rw [if_neg c35] at H; exact absurd H (by simp)
             ·rw [if_neg c34] at H; exact absurd H (by simp)
            ·rw [if_neg c32] at H; have c32b0 : decide (0 < x22_2) = false := decide_eq_false c32; clear c32; have H' := Aside0.mk H; clear H
             try go_wp2
             replace BK119 := Aside0.mk (blk_drew BK119.out); replace BK122 := Aside0.mk (blk_drew BK122.out); replace HB := Aside0.mk (below_drew1 HB.out); refine start_ (n := 13) (S := fun w' => True) (ds := []) bl0 (by kernel_rfl) rfl rfl trivial (fun hHeld => ?_); refine with_tabW impl_AutoOk.tab8 impl_AutoOk.bits8 (fun HT_ HW_ => ?_); generalize wc.drew = w42 at BK119 BK122 HB hHeld ⊢
             refine pu 0 (some 52) bl1 HT_ ?_ rfl rfl (.inl ⟨by rfl, ?_⟩) ?_ ?_ ?_; rotate_left; (intro w'; go_simp; with_reducible rfl); rotate_left; (simp only [Act.put, q5]; rfl)
             refine pu 1 (some 53) bl2 HT_ ?_ rfl rfl (.inl ⟨by rfl, ?_⟩) ?_ ?_ ?_; rotate_left; (intro w'; go_simp; with_reducible rfl); rotate_left; (simp only [Act.put, q5]; rfl)
             refine pu 2 (some 54) bl3 HT_ ?_ rfl rfl (.inl ⟨by rfl, ?_⟩) ?_ ?_ ?_; rotate_left; (intro w'; go_simp; with_reducible rfl); rotate_left; (simp only [Act.put, q5]; rfl)
             refine pu 3 (some 55) bl4 HT_ undef rfl rfl (.inr ⟨by rfl, rfl⟩) ?_ ?_ ?_; rotate_left; (simp only [Act.put, q5]; rfl)
             refine pu 4 (some 56) bl14 HT_ undef rfl rfl (.inr ⟨by rfl, rfl⟩) ?_ ?_ ?_; rotate_left; (simp only [Act.put, q5]; rfl)
             refine pu 5 (some 57) bl15 HT_ undef rfl rfl (.inr ⟨by rfl, rfl⟩) ?_ ?_ ?_; rotate_left; (simp only [Act.put, q5]; rfl)
             refine pu 6 (some 58) bl7 HT_ undef rfl rfl (.inr ⟨by rfl, rfl⟩) ?_ ?_ ?_; rotate_left; (simp only [Act.put, q5]; rfl)
             refine pu 7 (some 59) bl8 HT_ undef rfl rfl (.inr ⟨by rfl, rfl⟩) ?_ ?_ ?_; rotate_left; (simp only [Act.put, q5]; rfl)
             refine pu 8 (some 60) bl9 HT_ undef rfl rfl (.inr ⟨by rfl, rfl⟩) ?_ ?_ ?_; rotate_left; (simp only [Act.put, q5]; rfl)
             refine pu 9 (some 61) bl10 HT_ undef rfl rfl (.inr ⟨by rfl, rfl⟩) ?_ ?_ ?_; rotate_left; (simp only [Act.put, q5]; rfl)
             refine pu 10 (some 62) bl11 HT_ undef rfl rfl (.inr ⟨by rfl, rfl⟩) ?_ ?_ ?_; rotate_left; (simp only [Act.put, q5]; rfl)
             refine pu 11 (some 63) bl12 HT_ undef rfl rfl (.inr ⟨by rfl, rfl⟩) ?_ ?_ ?_; rotate_left; (simp only [Act.put, q5]; rfl)
             refine pu 12 (some 64) bl13 HT_ ?_ rfl rfl (.inl ⟨by rfl, ?_⟩) ?_ ?_ ?_; rotate_left; (intro w'; go_simp; with_reducible rfl); rotate_left; (simp only [Act.put, q5]; rfl)
             refine done_ (done_of HT_.out (by kernel_rfl)) ?_
             try go_wp2
             go_roundg kj12
             case measure => have := HJ1.out; have := HK2.out; have := HJ12.out; omega
             case rel => exact ⟨(wrap64 (x22_2 + 1)), (by first | rfl | (simp; done) | (simp [*]; done) | (rw [Int.tmod_eq_emod_of_nonneg (Int.natCast_nonneg _)]; done)), H', ⟨by have := HJ1.out; have := HK2.out; have := HJ12.out; omega⟩, ⟨zB BK119.out⟩, ⟨zS HB.out⟩⟩
        ·rw [if_neg c12] at H; exact absurd H (by simp)
       ·rw [if_neg c11] at H; exact absurd H (by simp)
      ·rw [if_neg c10] at H; have c10b0 : decide (x22_2 < (l0_3.length : Int)) = false := decide_eq_false c10; clear c10; obtain rfl := Option.some.inj H
       go_wp2
       go_ret; exact ⟨by first | rfl | (simp [errW_none, errW_some] <;> rfl) | (simp [*, errW_none, errW_some] <;> rfl), by repeat (first | (with_reducible first | exact HB.out | apply below_alloc | apply pw_below_drewN | apply below_drew1 | refine below_set ?_ GE119.out) | exact HB.out)⟩

end Go.Proofs.Ytigmokdcanebeaa.MFnExactAutoMake
