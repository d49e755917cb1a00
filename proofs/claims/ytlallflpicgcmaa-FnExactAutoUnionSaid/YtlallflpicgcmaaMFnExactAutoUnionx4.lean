-- Written by a program of this session, out of Lean's print of the translation. Not trusted: Lean checks it.
import Derived.Test.YtlallflpicgcmaaMFnExactAutoUnionx0
import Derived.Test.YtlallflpicgcmaaMFnExactAutoUnionx3
namespace Go.Proofs.Ytlallflpicgcmaa.MFnExactAutoUnion
open Go.RowKit Go.Proofs.YtlallflpicgcmaaW.PrintWords Go.Proofs.YtlallflpicgcmaaW.PrintLast Go.Proofs.YtlallflpicgcmaaW.PrintMore
attribute [local go_sem] max2_int min2_int max_two min_two max_three min_three max_four min_four   -- for this text's walks alone
set_option linter.unusedVariables false
set_option linter.unusedSimpArgs false


/-! ### cmp_Compare_int: function 106 -/
def cmp_Compare_int.f (a0 : Int) (a1 : Int) : Option (Int) := (cmp_isNaN_int.f a0).bind fun t183 => ((cmp_isNaN_int.f a1).bind fun t184 => (if t183 = true then (if t184 = true then (some 0) else (some (-1))) else (if t184 = true then (some 1) else (if a0 < a1 then (some (-1)) else (if a0 > a1 then (some 1) else (some 0))))))
open Go.Proofs.Ytlallflpicgcmaa.Short2 in
set_option maxHeartbeats 8000000 in
set_option maxRecDepth 100000 in
theorem cmp_Compare_int.calls (a0 : Int) (a1 : Int) (r : Int) (w : World) (h : cmp_Compare_int.f a0 a1 = some r) :
  Calls Try.prog 106 #[.int .i64 a0, .int .i64 a1] w fun e w' => e = .returned (.int .i64 r) ∧ Drawn0 w w' := by
 have H : ((cmp_isNaN_int.f a0).bind fun t183 => ((cmp_isNaN_int.f a1).bind fun t184 => (if t183 = true then (if t184 = true then (some 0) else (some (-1))) else (if t184 = true then (some 1) else (if a0 < a1 then (some (-1)) else (if a0 > a1 then (some 1) else (some 0))))))) = some r := h; clear h; replace H := Option.bind_eq_some_iff.mp H; obtain ⟨t183, A30, H⟩ := H; replace H : ((cmp_isNaN_int.f a1).bind fun t184 => (if t183 = true then (if t184 = true then (some 0) else (some (-1))) else (if t184 = true then (some 1) else (if a0 < a1 then (some (-1)) else (if a0 > a1 then (some 1) else (some 0)))))) = some r := H; have A3 := Aside0.mk A30; clear A30; replace H := Option.bind_eq_some_iff.mp H; obtain ⟨t184, A40, H⟩ := H; replace H : (if t183 = true then (if t184 = true then (some 0) else (some (-1))) else (if t184 = true then (some 1) else (if a0 < a1 then (some (-1)) else (if a0 > a1 then (some 1) else (some 0))))) = some r := H; have A4 := Aside0.mk A40; clear A40
 by_cases c5 : t183 = true
 ·subst c5
  have H1 : (if t184 = true then (some 0) else (some (-1))) = some r := by rw [if_pos rfl] at H; exact H
  clear H; have H := H1; clear H1
  by_cases c6 : t184 = true
  ·subst c6
   have H1 : (some 0) = some r := by rw [if_pos rfl] at H; exact H
   clear H; have H := H1; clear H1; obtain rfl := Option.some.inj H
   go_enter Try.func106, Try.ntmps106
   go_wp2_with (first | ((with_reducible refine gate_callee (f := 118) rfl ?_); refine goesL_ (some 8) rfl rfl Try.func118 (by kernel_rfl) rfl #[.int .i64 a0] rfl (by (try simp only [m3]); first | done | rfl | (simp only [d2]; rfl)) ?_; (with_reducible refine (cmp_isNaN_int.calls a0 true _ A3.out).mono ?_); rintro e w' ⟨rfl, ⟨nd, rfl⟩⟩; refine ⟨_, rfl, ?_⟩) | ((with_reducible refine gate_callee (f := 118) rfl ?_); refine goesL_ (some 10) rfl rfl Try.func118 (by kernel_rfl) rfl #[.int .i64 a1] rfl (by (try simp only [m3]); first | done | rfl | (simp only [d2]; rfl)) ?_; (with_reducible refine (cmp_isNaN_int.calls a1 true _ A4.out).mono ?_); rintro e w' ⟨rfl, ⟨nd, rfl⟩⟩; refine ⟨_, rfl, ?_⟩))
   go_ret; exact ⟨by first | rfl | (simp; done) | (simp [*]; done), by repeat (first | exact Drawn0.refl _ | apply Drawn0.step)⟩
  ·replace c6 := Bool.eq_false_iff.mpr c6; subst c6
   have H1 : (some (-1)) = some r := by rw [if_neg (show ¬ (false = true) by decide)] at H; exact H
   clear H; have H := H1; clear H1; obtain rfl := Option.some.inj H
   go_enter Try.func106, Try.ntmps106
   go_wp2_with (first | ((with_reducible refine gate_callee (f := 118) rfl ?_); refine goesL_ (some 8) rfl rfl Try.func118 (by kernel_rfl) rfl #[.int .i64 a0] rfl (by (try simp only [m3]); first | done | rfl | (simp only [d2]; rfl)) ?_; (with_reducible refine (cmp_isNaN_int.calls a0 true _ A3.out).mono ?_); rintro e w' ⟨rfl, ⟨nd, rfl⟩⟩; refine ⟨_, rfl, ?_⟩) | ((with_reducible refine gate_callee (f := 118) rfl ?_); refine goesL_ (some 10) rfl rfl Try.func118 (by kernel_rfl) rfl #[.int .i64 a1] rfl (by (try simp only [m3]); first | done | rfl | (simp only [d2]; rfl)) ?_; (with_reducible refine (cmp_isNaN_int.calls a1 false _ A4.out).mono ?_); rintro e w' ⟨rfl, ⟨nd, rfl⟩⟩; refine ⟨_, rfl, ?_⟩))
   go_ret; exact ⟨by first | rfl | (simp; done) | (simp [*]; done), by repeat (first | exact Drawn0.refl _ | apply Drawn0.step)⟩
 ·replace c5 := Bool.eq_false_iff.mpr c5; subst c5
  have H1 : (if t184 = true then (some 1) else (if a0 < a1 then (some (-1)) else (if a0 > a1 then (some 1) else (some 0)))) = some r := by rw [if_neg (show ¬ (false = true) by decide)] at H; exact H
  clear H; have H := H1; clear H1
  by_cases c7 : t184 = true
  ·subst c7
   have H1 : (some 1) = some r := by rw [if_pos rfl] at H; exact H
   clear H; have H := H1; clear H1; obtain rfl := Option.some.inj H
   go_enter Try.func106, Try.ntmps106
   go_wp2_with (first | ((with_reducible refine gate_callee (f := 118) rfl ?_); refine goesL_ (some 8) rfl rfl Try.func118 (by kernel_rfl) rfl #[.int .i64 a0] rfl (by (try simp only [m3]); first | done | rfl | (simp only [d2]; rfl)) ?_; (with_reducible refine (cmp_isNaN_int.calls a0 false _ A3.out).mono ?_); rintro e w' ⟨rfl, ⟨nd, rfl⟩⟩; refine ⟨_, rfl, ?_⟩) | ((with_reducible refine gate_callee (f := 118) rfl ?_); refine goesL_ (some 10) rfl rfl Try.func118 (by kernel_rfl) rfl #[.int .i64 a1] rfl (by (try simp only [m3]); first | done | rfl | (simp only [d2]; rfl)) ?_; (with_reducible refine (cmp_isNaN_int.calls a1 true _ A4.out).mono ?_); rintro e w' ⟨rfl, ⟨nd, rfl⟩⟩; refine ⟨_, rfl, ?_⟩))
   go_ret; exact ⟨by first | rfl | (simp; done) | (simp [*]; done), by repeat (first | exact Drawn0.refl _ | apply Drawn0.step)⟩
  ·replace c7 := Bool.eq_false_iff.mpr c7; subst c7
   have H1 : (if a0 < a1 then (some (-1)) else (if a0 > a1 then (some 1) else (some 0))) = some r := by rw [if_neg (show ¬ (false = true) by decide)] at H; exact H
   clear H; have H := H1; clear H1
   by_cases c8 : a0 < a1
   ·rw [if_pos c8] at H; have c8b0 : decide (a0 < a1) = true := decide_eq_true c8; clear c8; obtain rfl := Option.some.inj H
    go_enter Try.func106, Try.ntmps106
    go_wp2_with (first | ((with_reducible refine gate_callee (f := 118) rfl ?_); refine goesL_ (some 8) rfl rfl Try.func118 (by kernel_rfl) rfl #[.int .i64 a0] rfl (by (try simp only [m3]); first | done | rfl | (simp only [d2]; rfl)) ?_; (with_reducible refine (cmp_isNaN_int.calls a0 false _ A3.out).mono ?_); rintro e w' ⟨rfl, ⟨nd, rfl⟩⟩; refine ⟨_, rfl, ?_⟩) | ((with_reducible refine gate_callee (f := 118) rfl ?_); refine goesL_ (some 10) rfl rfl Try.func118 (by kernel_rfl) rfl #[.int .i64 a1] rfl (by (try simp only [m3]); first | done | rfl | (simp only [d2]; rfl)) ?_; (with_reducible refine (cmp_isNaN_int.calls a1 false _ A4.out).mono ?_); rintro e w' ⟨rfl, ⟨nd, rfl⟩⟩; refine ⟨_, rfl, ?_⟩))
    go_ret; exact ⟨by first | rfl | (simp; done) | (simp [*]; done), by repeat (first | exact Drawn0.refl _ | apply Drawn0.step)⟩
   ·rw [if_neg c8] at H; have c8b0 : decide (a0 < a1) = false := decide_eq_false c8; clear c8
    by_cases c9 : a0 > a1
    ·rw [if_pos c9] at H; have c9b0 : decide (a1 < a0) = true := decide_eq_true c9; clear c9; obtain rfl := Option.some.inj H
     go_enter Try.func106, Try.ntmps106
     go_wp2_with (first | ((with_reducible refine gate_callee (f := 118) rfl ?_); refine goesL_ (some 8) rfl rfl Try.func118 (by kernel_rfl) rfl #[.int .i64 a0] rfl (by (try simp only [m3]); first | done | rfl | (simp only [d2]; rfl)) ?_; (with_reducible refine (cmp_isNaN_int.calls a0 false _ A3.out).mono ?_); rintro e w' ⟨rfl, ⟨nd, rfl⟩⟩; refine ⟨_, rfl, ?_⟩) | ((with_reducible refine gate_callee (f := 118) rfl ?_); refine goesL_ (some 10) rfl rfl Try.func118 (by kernel_rfl) rfl #[.int .i64 a1] rfl (by (try simp only [m3]); first | done | rfl | (simp only [d2]; rfl)) ?_; (with_reducible refine (cmp_isNaN_int.calls a1 false _ A4.out).mono ?_); rintro e w' ⟨rfl, ⟨nd, rfl⟩⟩; refine ⟨_, rfl, ?_⟩))
     go_ret; exact ⟨by first | rfl | (simp; done) | (simp [*]; done), by repeat (first | exact Drawn0.refl _ | apply Drawn0.step)⟩
    ·rw [if_neg c9] at H; have c9b0 : decide (a1 < a0) = false := decide_eq_false c9; clear c9; obtain rfl := Option.some.inj H
     go_enter Try.func106, Try.ntmps106
     go_wp2_with (first | ((with_reducible refine gate_callee (f := 118) rfl ?_); refine goesL_ (some 8) rfl rfl Try.func118 (by kernel_rfl) rfl #[.int .i64 a0] rfl (by (try simp only [m3]); first | done | rfl | (simp only [d2]; rfl)) ?_; (with_reducible refine (cmp_isNaN_int.calls a0 false _ A3.out).mono ?_); rintro e w' ⟨rfl, ⟨nd, rfl⟩⟩; refine ⟨_, rfl, ?_⟩) | ((with_reducible refine gate_callee (f := 118) rfl ?_); refine goesL_ (some 10) rfl rfl Try.func118 (by kernel_rfl) rfl #[.int .i64 a1] rfl (by (try simp only [m3]); first | done | rfl | (simp only [d2]; rfl)) ?_; (with_reducible refine (cmp_isNaN_int.calls a1 false _ A4.out).mono ?_); rintro e w' ⟨rfl, ⟨nd, rfl⟩⟩; refine ⟨_, rfl, ?_⟩))
     go_ret; exact ⟨by first | rfl | (simp; done) | (simp [*]; done), by repeat (first | exact Drawn0.refl _ | apply Drawn0.step)⟩

section
open Go.Proofs.Ytlallflpicgcmaa.Short2.T
abbrev impl_compareEdges.bl0 : Array Bool := #[f, f, f, f, f, f, f, f, f, f, f, f, f, f, f, f, f, f]
abbrev impl_compareEdges.bl1 : Array Bool := #[t, f, f, f, f, f, f, f, f, f, f, f, f, f, f, f, f, f]
abbrev impl_compareEdges.bl2 : Array Bool := #[t, f, t, f, f, f, f, f, f, f, f, f, f, f, f, f, f, f]
abbrev impl_compareEdges.bl3 : Array Bool := #[t, f, t, f, f, t, f, f, f, f, f, f, f, f, f, f, f, f]
abbrev impl_compareEdges.bl4 : Array Bool := #[t, f, t, f, f, t, f, t, f, f, f, f, f, f, f, f, f, f]
abbrev impl_compareEdges.bl5 : Array Bool := #[t, f, t, f, f, t, f, t, f, f, t, f, f, f, f, f, f, f]
abbrev impl_compareEdges.bl6 : Array Bool := #[t, f, t, f, f, t, f, t, f, f, t, f, t, f, f, f, f, f]
abbrev impl_compareEdges.bl7 : Array Bool := #[t, t, t, f, f, t, f, t, f, f, t, f, t, f, f, f, f, f]
abbrev impl_compareEdges.bl8 : Array Bool := #[t, t, t, t, f, t, f, t, f, f, t, f, t, f, f, f, f, f]
abbrev impl_compareEdges.bl9 : Array Bool := #[t, t, t, t, f, t, t, t, f, f, t, f, t, f, f, f, f, f]
abbrev impl_compareEdges.bl10 : Array Bool := #[t, t, t, t, f, t, t, t, t, f, t, f, t, f, f, f, f, f]
abbrev impl_compareEdges.bl11 : Array Bool := #[t, t, t, t, f, t, t, t, t, f, t, t, t, f, f, f, f, f]
abbrev impl_compareEdges.bl12 : Array Bool := #[t, t, t, t, f, t, t, t, t, f, t, t, t, t, f, f, f, f]
abbrev impl_compareEdges.bl13 : Array Bool := #[t, t, t, t, t, t, t, t, t, f, t, t, t, t, f, f, f, f]
abbrev impl_compareEdges.bl14 : Array Bool := #[t, t, t, t, t, t, t, t, t, t, t, t, t, t, f, f, f, f]
abbrev impl_compareEdges.bl15 : Array Bool := #[t, t, t, t, t, t, t, t, t, t, t, t, t, t, t, f, f, f]
abbrev impl_compareEdges.bl16 : Array Bool := #[t, t, t, t, t, t, t, t, t, t, t, t, t, t, t, t, f, f]
abbrev impl_compareEdges.bl17 : Array Bool := #[t, t, t, t, t, t, t, t, t, t, t, t, t, t, t, t, t, f]
abbrev impl_compareEdges.bl18 : Array Bool := #[t, t, t, t, t, t, t, t, t, t, t, t, t, t, t, t, t, t]
end
/-! ### impl_compareEdges: function 70 -/
def impl_compareEdges.f (k : Nat) (a0_0 : Int) (a0_1 : Int) (a0_2 : Int) (a0_3 : Bool) (a1_0 : Int) (a1_1 : Int) (a1_2 : Int) (a1_3 : Bool) : Option (Int) := (cmp_Compare_int.f a0_0 a1_0).bind fun t187 => ((cmp_Compare_int.f a0_1 a1_1).bind fun t188 => ((cmp_Compare_int.f a0_2 a1_2).bind fun t189 => ((cmp_Or_int.f k (([t187, t188, t189] : List Int))).bind fun t193 => (some t193))))
theorem impl_compareEdges.mono : ∀ a0 a1 a2 a3 a4 a5 a6 a7 k, LeO (impl_compareEdges.f k a0 a1 a2 a3 a4 a5 a6 a7) (impl_compareEdges.f (k + 1) a0 a1 a2 a3 a4 a5 a6 a7) := by
 intro a0 a1 a2 a3 a4 a5 a6 a7 k
 unfold impl_compareEdges.f
 repeat' first
   | (with_reducible exact cmp_Or_int.mono _ _)
   | (with_reducible exact LeO.refl _)
   | (with_reducible exact LeO.none _)
   | (with_reducible refine LeO.ite ?_ ?_)
   | (with_reducible refine LeO.bind ?_ (fun _ => ?_))
   | exact cmp_Or_int.mono _ _
   | exact LeO.none _
   | refine LeO.ite ?_ ?_
   | refine LeO.bind ?_ (fun _ => ?_)
def impl_compareEdges.T1 : Bool × List (List Nat × List Nat) := (true, [([], []), ([0], [0]), ([], []), ([2], [2]), ([1, 3], [1, 3]), ([], []), ([5], [5]), ([], []), ([7], [7]), ([6, 8, 4], [6, 8]), ([], []), ([10], [10]), ([], []), ([12], [12]), ([11, 13, 9], [11, 13]), ([4, 9, 14], [4, 9, 14]), ([15, 14], [15]), ([16, 16, 0, 1, 2, 3, 4, 5, 6, 7, 8, 9, 10, 11, 12, 13, 14, 15, 16], [16])])
def impl_compareEdges.B1 : List Nat := [0, 1, 0, 4, 15, 0, 32, 0, 128, 511, 0, 1024, 0, 4096, 16383, 32767, 65535, 131071]
theorem impl_compareEdges.tab1 : rtab .any (opsOf Try.f70 1) = impl_compareEdges.T1 := by kernel_rfl
theorem impl_compareEdges.bits1 : waitsOk impl_compareEdges.T1.2 impl_compareEdges.B1 = true := by kernel_rfl
open Go.Proofs.Ytlallflpicgcmaa.Short2 in
set_option maxHeartbeats 8000000 in
set_option maxRecDepth 100000 in
theorem impl_compareEdges.calls (k : Nat) (a0_0 : Int) (a0_1 : Int) (a0_2 : Int) (a0_3 : Bool) (a1_0 : Int) (a1_1 : Int) (a1_2 : Int) (a1_3 : Bool) (r : Int) (w : World) (h : impl_compareEdges.f k a0_0 a0_1 a0_2 a0_3 a1_0 a1_1 a1_2 a1_3 = some r) :
  Calls Try.prog 70 #[.agg #[.int .i64 a0_0, .int .i64 a0_1, .int .i64 a0_2, .bool a0_3], .agg #[.int .i64 a1_0, .int .i64 a1_1, .int .i64 a1_2, .bool a1_3]] w fun e w' => e = .returned (.int .i64 r) ∧ Below w.heap.size w w' := by
 have hu68 := Try.underlying68; have HB := Aside0.mk (Below.refl w.heap.size w); have H : ((cmp_Compare_int.f a0_0 a1_0).bind fun t187 => ((cmp_Compare_int.f a0_1 a1_1).bind fun t188 => ((cmp_Compare_int.f a0_2 a1_2).bind fun t189 => ((cmp_Or_int.f k (([t187, t188, t189] : List Int))).bind fun t193 => (some t193))))) = some r := h; clear h; replace H := Option.bind_eq_some_iff.mp H; obtain ⟨t187, A30, H⟩ := H; replace H : ((cmp_Compare_int.f a0_1 a1_1).bind fun t188 => ((cmp_Compare_int.f a0_2 a1_2).bind fun t189 => ((cmp_Or_int.f k (([t187, t188, t189] : List Int))).bind fun t193 => (some t193)))) = some r := H; have A3 := Aside0.mk A30; clear A30; replace H := Option.bind_eq_some_iff.mp H; obtain ⟨t188, A40, H⟩ := H; replace H : ((cmp_Compare_int.f a0_2 a1_2).bind fun t189 => ((cmp_Or_int.f k (([t187, t188, t189] : List Int))).bind fun t193 => (some t193))) = some r := H; have A4 := Aside0.mk A40; clear A40; replace H := Option.bind_eq_some_iff.mp H; obtain ⟨t189, A50, H⟩ := H; replace H : ((cmp_Or_int.f k (([t187, t188, t189] : List Int))).bind fun t193 => (some t193)) = some r := H; have A5 := Aside0.mk A50; clear A50; obtain ⟨y190, hy190⟩ : ∃ y_ : List Int, y_ = (([t187, t188, t189] : List Int)) := ⟨_, rfl⟩
 replace H : ((cmp_Or_int.f k y190).bind fun t193 => (some t193)) = some r := by first | (rw [hy190]; with_reducible exact H) | (have H2_ := (Option.bind_some _ _).symm.trans H; rw [hy190]; with_reducible exact H2_) | (have H2_ := (Option.bind_some _ _).symm.trans H; with_reducible exact H2_) | with_reducible exact H | (rw [hy190]; exact H) | exact H
 have Ny190 := Aside0.mk hy190; clear hy190; replace H := Option.bind_eq_some_iff.mp H; obtain ⟨t193, A60, H⟩ := H; replace H : (some t193) = some r := H; have A6 := Aside0.mk A60; clear A60; obtain rfl := Option.some.inj H
 go_enter Try.func70, Try.ntmps70
 try go_wp2_with (first | ((with_reducible refine gate_dst (N := 2) rfl ?_); refine box_event ?hg (N := 2) ?hd (cs := #[.int .i64 a0_0, .int .i64 a0_1, .int .i64 a0_2, .bool a0_3]) (t := 68) ?hr ?_; (case hd => rfl); (case hg => rfl); (case hr => first | (go_simp; done) | (go_simp; rfl)); intro gb185 hg w7 hbox hb; have BK185 := Aside0.mk (hbox); have GW185 := xG HB hg; have GE185 := xG HB hg; replace HB := xS HB hb; clear hb hbox hg) | ((with_reducible refine gate_dst (N := 3) rfl ?_); refine box_event ?hg (N := 3) ?hd (cs := #[.int .i64 a1_0, .int .i64 a1_1, .int .i64 a1_2, .bool a1_3]) (t := 68) ?hr ?_; (case hd => rfl); (case hg => rfl); (case hr => first | (go_simp; done) | (go_simp; rfl)); intro gb186 hg w8 hbox hb; have BK186 := Aside0.mk (hbox); have GW186 := xG HB hg; have GE186 := xG HB hg; replace HB := xS HB hb; have NB185_186 := xN BK185 hg; have NB186_185 := xM BK185 hg; replace BK185 := xB BK185 hb; clear hb hbox hg))
 replace BK185 := Aside0.mk (blk_drew BK185.out); replace BK186 := Aside0.mk (blk_drew BK186.out); replace HB := Aside0.mk (below_drew1 HB.out); refine start_ (n := 18) (S := fun w' => w'.cell? ⟨gb185, 0, none⟩ = some (.int .i64 a0_0) ∧ w'.cell? ⟨gb185, 1, none⟩ = some (.int .i64 a0_1) ∧ w'.cell? ⟨gb185, 2, none⟩ = some (.int .i64 a0_2) ∧ w'.cell? ⟨gb185, 3, none⟩ = some (.bool a0_3) ∧ w'.cell? ⟨gb186, 0, none⟩ = some (.int .i64 a1_0) ∧ w'.cell? ⟨gb186, 1, none⟩ = some (.int .i64 a1_1) ∧ w'.cell? ⟨gb186, 2, none⟩ = some (.int .i64 a1_2) ∧ w'.cell? ⟨gb186, 3, none⟩ = some (.bool a1_3)) (ds := []) bl0 (by kernel_rfl) rfl rfl ⟨b1 BK185 0, b1 BK185 1, b1 BK185 2, b1 BK185 3, b1 BK186 0, b1 BK186 1, b1 BK186 2, b1 BK186 3⟩ (fun hHeld => ?_); refine with_tabW impl_compareEdges.tab1 impl_compareEdges.bits1 (fun HT_ HW_ => ?_); generalize w8.drew = w9 at BK185 BK186 HB hHeld ⊢
 refine pu 0 (some 5) bl1 HT_ ?_ rfl rfl (.inl ⟨by rfl, ?_⟩) ?_ ?_ ?_; rotate_left; (intro w'; go_simp; with_reducible rfl); rotate_left; (simp only [Act.put, q5]; rfl)
 refine pu 2 (some 7) bl2 HT_ ?_ rfl rfl (.inl ⟨by rfl, ?_⟩) ?_ ?_ ?_; rotate_left; (intro w'; go_simp; with_reducible rfl); rotate_left; (simp only [Act.put, q5]; rfl)
 refine pu 5 (some 10) bl3 HT_ ?_ rfl rfl (.inl ⟨by rfl, ?_⟩) ?_ ?_ ?_; rotate_left; (intro w'; go_simp; with_reducible rfl); rotate_left; (simp only [Act.put, q5]; rfl)
 refine pu 7 (some 12) bl4 HT_ ?_ rfl rfl (.inl ⟨by rfl, ?_⟩) ?_ ?_ ?_; rotate_left; (intro w'; go_simp; with_reducible rfl); rotate_left; (simp only [Act.put, q5]; rfl)
 refine pu 10 (some 15) bl5 HT_ ?_ rfl rfl (.inl ⟨by rfl, ?_⟩) ?_ ?_ ?_; rotate_left; (intro w'; go_simp; with_reducible rfl); rotate_left; (simp only [Act.put, q5]; rfl)
 refine pu 12 (some 17) bl6 HT_ ?_ rfl rfl (.inl ⟨by rfl, ?_⟩) ?_ ?_ ?_; rotate_left; (intro w'; go_simp; with_reducible rfl); rotate_left; (simp only [Act.put, q5]; rfl)
 refine take_ (i := 1) (N := some 6) (v := ?_) (a' := ?_) bl7 rfl rfl (take_ofW HT_.out HW_.out (by kernel_rfl)) (fun _ _ _ h => h) (Or.inl ⟨by rfl, ?_⟩) hHeld ?_ ?_; rotate_left
 ·rintro w' ⟨s0, s1, s2, s3, s4, s5, s6, s7⟩; go_simp; with_reducible rfl
 rotate_left
 ·simp only [Act.put, q5]; rfl
 refine take_ (i := 3) (N := some 8) (v := ?_) (a' := ?_) bl8 rfl rfl (take_ofW HT_.out HW_.out (by kernel_rfl)) (fun _ _ _ h => h) (Or.inl ⟨by rfl, ?_⟩) hHeld ?_ ?_; rotate_left
 ·rintro w' ⟨s0, s1, s2, s3, s4, s5, s6, s7⟩; go_simp; with_reducible rfl
 rotate_left
 ·simp only [Act.put, q5]; rfl
 refine take_ (i := 6) (N := some 11) (v := ?_) (a' := ?_) bl9 rfl rfl (take_ofW HT_.out HW_.out (by kernel_rfl)) (fun _ _ _ h => h) (Or.inl ⟨by rfl, ?_⟩) hHeld ?_ ?_; rotate_left
 ·rintro w' ⟨s0, s1, s2, s3, s4, s5, s6, s7⟩; go_simp; with_reducible rfl
 rotate_left
 ·simp only [Act.put, q5]; rfl
 refine take_ (i := 8) (N := some 13) (v := ?_) (a' := ?_) bl10 rfl rfl (take_ofW HT_.out HW_.out (by kernel_rfl)) (fun _ _ _ h => h) (Or.inl ⟨by rfl, ?_⟩) hHeld ?_ ?_; rotate_left
 ·rintro w' ⟨s0, s1, s2, s3, s4, s5, s6, s7⟩; go_simp; with_reducible rfl
 rotate_left
 ·simp only [Act.put, q5]; rfl
 refine take_ (i := 11) (N := some 16) (v := ?_) (a' := ?_) bl11 rfl rfl (take_ofW HT_.out HW_.out (by kernel_rfl)) (fun _ _ _ h => h) (Or.inl ⟨by rfl, ?_⟩) hHeld ?_ ?_; rotate_left
 ·rintro w' ⟨s0, s1, s2, s3, s4, s5, s6, s7⟩; go_simp; with_reducible rfl
 rotate_left
 ·simp only [Act.put, q5]; rfl
 refine take_ (i := 13) (N := some 18) (v := ?_) (a' := ?_) bl12 rfl rfl (take_ofW HT_.out HW_.out (by kernel_rfl)) (fun _ _ _ h => h) (Or.inl ⟨by rfl, ?_⟩) hHeld ?_ ?_; rotate_left
 ·rintro w' ⟨s0, s1, s2, s3, s4, s5, s6, s7⟩; go_simp; with_reducible rfl
 rotate_left
 ·simp only [Act.put, q5]; rfl
 refine one_ (i := 4) (N := some 9) bl13 rfl rfl (one_of HT_.out (by kernel_rfl)) (by decide) (fun K hK => ?_); refine goes_ Try.func106 (by kernel_rfl) rfl #[.int .i64 a0_0, .int .i64 a1_0] (by rfl) rfl rfl (by (try simp only [m3]); first | done | rfl | (simp only [d2]; rfl)) ?_
 with_reducible refine (cmp_Compare_int.calls a0_0 a1_0 t187 _ A3.out).mono ?_
 rintro e w' ⟨rfl, ⟨nd, rfl⟩⟩; refine ⟨_, rfl, ?_⟩; refine hK.out _ _ ⟨b1 BK185 0, b1 BK185 1, b1 BK185 2, b1 BK185 3, b1 BK186 0, b1 BK186 1, b1 BK186 2, b1 BK186 3⟩ (fun hHeld => ?_); clear hK K; refine norm_ (a' := ?_) ?_ ?_; rotate_left
 ·show Act.put _ (some 9) _ = _; simp only [Act.put, q5]; rfl
 refine one_ (i := 9) (N := some 14) bl14 rfl rfl (one_of HT_.out (by kernel_rfl)) (by decide) (fun K hK => ?_); refine goes_ Try.func106 (by kernel_rfl) rfl #[.int .i64 a0_1, .int .i64 a1_1] (by rfl) rfl rfl (by (try simp only [m3]); first | done | rfl | (simp only [d2]; rfl)) ?_
 with_reducible refine (cmp_Compare_int.calls a0_1 a1_1 t188 _ A4.out).mono ?_
 rintro e w' ⟨rfl, ⟨nd, rfl⟩⟩; refine ⟨_, rfl, ?_⟩; refine hK.out _ _ ⟨b1 BK185 0, b1 BK185 1, b1 BK185 2, b1 BK185 3, b1 BK186 0, b1 BK186 1, b1 BK186 2, b1 BK186 3⟩ (fun hHeld => ?_); clear hK K; refine norm_ (a' := ?_) ?_ ?_; rotate_left
 ·show Act.put _ (some 14) _ = _; simp only [Act.put, q5]; rfl
 refine one_ (i := 14) (N := some 19) bl15 rfl rfl (one_of HT_.out (by kernel_rfl)) (by decide) (fun K hK => ?_); refine goes_ Try.func106 (by kernel_rfl) rfl #[.int .i64 a0_2, .int .i64 a1_2] (by rfl) rfl rfl (by (try simp only [m3]); first | done | rfl | (simp only [d2]; rfl)) ?_
 with_reducible refine (cmp_Compare_int.calls a0_2 a1_2 t189 _ A5.out).mono ?_
 rintro e w' ⟨rfl, ⟨nd, rfl⟩⟩; refine ⟨_, rfl, ?_⟩; refine hK.out _ _ ⟨b1 BK185 0, b1 BK185 1, b1 BK185 2, b1 BK185 3, b1 BK186 0, b1 BK186 1, b1 BK186 2, b1 BK186 3⟩ (fun hHeld => ?_); clear hK K; refine norm_ (a' := ?_) ?_ ?_; rotate_left
 ·show Act.put _ (some 19) _ = _; simp only [Act.put, q5]; rfl
 refine one_ (i := 15) (N := some 20) bl16 rfl rfl (one_of HT_.out (by kernel_rfl)) (by decide) (fun K hK => ?_)
 refine Kd.R_lit_step (Kd.int .i64) _ 3 ?hg (N := 20) ?hd (xs := ([t187, t188, t189] : List Int)) (inner := [.int .i64 t187, .int .i64 t188, .int .i64 t189]) (ok := fun _ => True) (okp := fun _ => True) ?hr ?hp (fun _ hk => hk) trivial (Below.refl _ _) (Nat.le_refl _) (by simp) ?_; (case hd => rfl); (case hg => rfl); (case hr => first | (go_simp; done) | (go_simp; rfl)); (case hp => exact (Reps.one (show Kd.M (Kd.int .i64) _ _ _ t187 [.int .i64 t187] from rfl) (Reps.one (show Kd.M (Kd.int .i64) _ _ _ t188 [.int .i64 t188] from rfl) (Reps.one (show Kd.M (Kd.int .i64) _ _ _ t189 [.int .i64 t189] from rfl) (Reps.none _ _)))))
 intro v191 w10 ho11 hb hg_ hnew_; clear hg_ hnew_
 (first | rw [← Ny190.out] at ho11 | (simp only [Int.reduceToNat] at ho11; rw [← Ny190.out] at ho11))
 have HO192 := Aside0.mk (Kd.R_lower ho11 (below_size (zS HB.out))); replace BK185 := xB BK185 hb; replace BK186 := xB BK186 hb; replace HB := xS HB hb; clear hb ho11; obtain ⟨Ao12, co12, eo12⟩ := Kd.R_slice HO192.out
 (first | subst eo12 | (injection eo12 with f1_ f2_ f3_; have f4_ := f1_.symm; have f5_ := f3_.symm; clear f1_ f2_ f3_; subst f4_; subst f5_))
 refine hK.out _ _ ⟨b1 BK185 0, b1 BK185 1, b1 BK185 2, b1 BK185 3, b1 BK186 0, b1 BK186 1, b1 BK186 2, b1 BK186 3⟩ (fun hHeld => ?_); clear hK K; refine norm_ (a' := ?_) ?_ ?_; rotate_left
 ·show Act.put _ (some 20) _ = _; simp only [Act.put, q5]; rfl
 refine one_ (i := 16) (N := some 21) bl17 rfl rfl (one_of HT_.out (by kernel_rfl)) (by decide) (fun K hK => ?_); refine goes_ Try.func105 (by kernel_rfl) rfl #[.slice Ao12 y190.length co12] (by rfl) rfl rfl (by (try simp only [m3]); first | done | rfl | (simp only [d2]; rfl)) ?_
 with_reducible refine (cmp_Or_int.calls k _ _ y190 t193 _ ?side1 ?side2 A6.out).mono ?_
 (case side1 => exact zC (Kd.R_reads' HO192.out).2.2)
 (case side2 => exact (Kd.R_reads' HO192.out).2.1)
 rintro e w' ⟨rfl, ⟨nd, rfl⟩⟩; refine ⟨_, rfl, ?_⟩; refine hK.out _ _ ⟨b1 BK185 0, b1 BK185 1, b1 BK185 2, b1 BK185 3, b1 BK186 0, b1 BK186 1, b1 BK186 2, b1 BK186 3⟩ (fun hHeld => ?_); clear hK K; refine norm_ (a' := ?_) ?_ ?_; rotate_left
 ·show Act.put _ (some 21) _ = _; simp only [Act.put, q5]; rfl
 refine pu 17 (some 4) bl18 HT_ ?_ rfl rfl (.inl ⟨by rfl, ?_⟩) ?_ ?_ ?_; rotate_left; (intro w'; go_simp; with_reducible rfl); rotate_left; (simp only [Act.put, q5]; rfl)
 refine done_ (done_of HT_.out (by kernel_rfl)) ?_
 try go_wp2
 go_ret; exact ⟨by first | rfl | (simp [errW_none, errW_some] <;> rfl) | (simp [*, errW_none, errW_some] <;> rfl), by repeat (first | (with_reducible first | exact HB.out | apply below_alloc | apply pw_below_drewN | apply below_drew1 | refine below_set ?_ GE185.out | refine below_set ?_ GE186.out) | exact HB.out)⟩

section
open Go.Proofs.Ytlallflpicgcmaa.Short2.T
abbrev impl_AutoOk.bl0 : Array Bool := #[f, f, f, f, f, f, f, f, f, f, f, f, f]
abbrev impl_AutoOk.bl1 : Array Bool := #[t, f, f, f, f, f, f, f, f, f, f, f, f]
abbrev impl_AutoOk.bl2 : Array Bool := #[t, t, f, f, f, f, f, f, f, f, f, f, f]
abbrev impl_AutoOk.bl3 : Array Bool := #[t, t, t, f, f, f, f, f, f, f, f, f, f]
abbrev impl_AutoOk.bl4 : Array Bool := #[t, t, t, t, f, f, f, f, f, f, f, f, f]
abbrev impl_AutoOk.bl5 : Array Bool := #[t, t, t, t, f, t, f, f, f, f, f, f, f]
abbrev impl_AutoOk.bl6 : Array Bool := #[t, t, t, t, f, t, t, f, f, f, f, f, f]
abbrev impl_AutoOk.bl7 : Array Bool := #[t, t, t, t, t, t, t, f, f, f, f, f, f]
abbrev impl_AutoOk.bl8 : Array Bool := #[t, t, t, t, t, t, t, t, f, f, f, f, f]
abbrev impl_AutoOk.bl9 : Array Bool := #[t, t, t, t, t, t, t, t, t, f, f, f, f]
abbrev impl_AutoOk.bl10 : Array Bool := #[t, t, t, t, t, t, t, t, t, t, f, f, f]
abbrev impl_AutoOk.bl11 : Array Bool := #[t, t, t, t, t, t, t, t, t, t, t, f, f]
abbrev impl_AutoOk.bl12 : Array Bool := #[t, t, t, t, t, t, t, t, t, t, t, t, f]
abbrev impl_AutoOk.bl13 : Array Bool := #[t, t, t, t, t, t, t, t, t, t, t, t, t]
abbrev impl_AutoOk.bl14 : Array Bool := #[t, t, t, t, t, f, f, f, f, f, f, f, f]
abbrev impl_AutoOk.bl15 : Array Bool := #[t, t, t, t, t, t, f, f, f, f, f, f, f]
end
/-! ### impl_AutoOk: function 22 -/
mutual
def impl_AutoOk.j0 : Nat → Bool → Int → Int → Int → List (S68) → Option (Bool)
 | 0, _, _, _, _, _ => none
 | k + 1, x18, x195000, x195001, x195002, x195003 => if x18 = true then (some false) else (impl_AutoOk.l0 k x195003 (x195003.length : Int) 0 x195000 x195001 x195002 x195003)
def impl_AutoOk.l0 : Nat → List (S68) → Int → Int → Int → Int → Int → List (S68) → Option (Bool)
 | 0, _, _, _, _, _, _, _ => none
 | k + 1, x20, x21, x22, x195000, x195001, x195002, x195003 => if x22 < x21 then (if 0 ≤ x22 then (if x22 < (x20.length : Int) then ((impl_inRange.f ((rd_T68 x20 x22).f0) 0 (wrap64 (x195001 - 1))).bind fun t198 => (if t198 = true then ((impl_inRange.f ((rd_T68 x20 x22).f2) 0 (wrap64 (x195001 - 1))).bind fun t199 => (if t199 = true then ((impl_inRange.f ((rd_T68 x20 x22).f1) 0 (wrap64 (x195000 - 1))).bind fun t200 => (impl_AutoOk.j2 k x22 x20 x21 x22 (!t200) x195000 x195001 x195002 x195003 ((rd_T68 x20 x22).f0) ((rd_T68 x20 x22).f1) ((rd_T68 x20 x22).f2) ((rd_T68 x20 x22).f3))) else (impl_AutoOk.j2 k x22 x20 x21 x22 true x195000 x195001 x195002 x195003 ((rd_T68 x20 x22).f0) ((rd_T68 x20 x22).f1) ((rd_T68 x20 x22).f2) ((rd_T68 x20 x22).f3)))) else (impl_AutoOk.j2 k x22 x20 x21 x22 true x195000 x195001 x195002 x195003 ((rd_T68 x20 x22).f0) ((rd_T68 x20 x22).f1) ((rd_T68 x20 x22).f2) ((rd_T68 x20 x22).f3)))) else (none)) else (none)) else (some true)
def impl_AutoOk.j2 : Nat → Int → List (S68) → Int → Int → Bool → Int → Int → Int → List (S68) → Int → Int → Int → Bool → Option (Bool)
 | 0, _, _, _, _, _, _, _, _, _, _, _, _, _ => none
 | k + 1, x3, x20, x21, x22, x51, x195000, x195001, x195002, x195003, x198000, x198001, x198002, x198003 => if x51 = true then (some false) else (if x3 > 0 then (if 0 ≤ (wrap64 (x3 - 1)) then (if (wrap64 (x3 - 1)) < (x195003.length : Int) then ((impl_compareEdges.f k ((rd_T68 x195003 (wrap64 (x3 - 1))).f0) ((rd_T68 x195003 (wrap64 (x3 - 1))).f1) ((rd_T68 x195003 (wrap64 (x3 - 1))).f2) ((rd_T68 x195003 (wrap64 (x3 - 1))).f3) x198000 x198001 x198002 x198003).bind fun t202 => (if t202 ≥ 0 then (some false) else (impl_AutoOk.l0 k x20 x21 (wrap64 (x22 + 1)) x195000 x195001 x195002 x195003))) else (none)) else (none)) else (impl_AutoOk.l0 k x20 x21 (wrap64 (x22 + 1)) x195000 x195001 x195002 x195003))
end
def impl_AutoOk.f (k : Nat) (a0_0 : Int) (a0_1 : Int) (a0_2 : Int) (l0_3 : List (S68)) : Option (Bool) := (impl_headOk.f a0_0 a0_1 a0_2).bind fun t195 => (if t195 = true then (impl_AutoOk.j0 k (decide ((l0_3.length : Int) > 2000)) a0_0 a0_1 a0_2 l0_3) else (impl_AutoOk.j0 k true a0_0 a0_1 a0_2 l0_3))
theorem impl_AutoOk.mono_l : ∀ k, (∀ y0 y1 y2 y3 y4, LeO (impl_AutoOk.j0 k y0 y1 y2 y3 y4) (impl_AutoOk.j0 (k + 1) y0 y1 y2 y3 y4)) ∧ (∀ y0 y1 y2 y3 y4 y5 y6, LeO (impl_AutoOk.l0 k y0 y1 y2 y3 y4 y5 y6) (impl_AutoOk.l0 (k + 1) y0 y1 y2 y3 y4 y5 y6)) ∧ (∀ y0 y1 y2 y3 y4 y5 y6 y7 y8 y9 y10 y11 y12, LeO (impl_AutoOk.j2 k y0 y1 y2 y3 y4 y5 y6 y7 y8 y9 y10 y11 y12) (impl_AutoOk.j2 (k + 1) y0 y1 y2 y3 y4 y5 y6 y7 y8 y9 y10 y11 y12))
 | 0 => ⟨fun _ _ _ _ _ r h => by simp [impl_AutoOk.j0] at h, fun _ _ _ _ _ _ _ r h => by simp [impl_AutoOk.l0] at h, fun _ _ _ _ _ _ _ _ _ _ _ _ _ r h => by simp [impl_AutoOk.j2] at h⟩
 | k + 1 => by
  obtain ⟨ih0, ih1, ih2⟩ := impl_AutoOk.mono_l k
  refine ⟨?_, ?_, ?_⟩
  ·intro y0 y1 y2 y3 y4
   unfold impl_AutoOk.j0
   repeat' first
   | (with_reducible exact ih0 _ _ _ _ _)
   | (with_reducible exact ih1 _ _ _ _ _ _ _)
   | (with_reducible exact ih2 _ _ _ _ _ _ _ _ _ _ _ _ _)
   | (with_reducible exact impl_compareEdges.mono _ _ _ _ _ _ _ _ _)
   | (with_reducible exact LeO.refl _)
   | (with_reducible exact LeO.none _)
   | (with_reducible refine LeO.ite ?_ ?_)
   | (with_reducible refine LeO.bind ?_ (fun _ => ?_))
   | exact ih0 _ _ _ _ _
   | exact ih1 _ _ _ _ _ _ _
   | exact ih2 _ _ _ _ _ _ _ _ _ _ _ _ _
   | exact impl_compareEdges.mono _ _ _ _ _ _ _ _ _
   | exact LeO.none _
   | refine LeO.ite ?_ ?_
   | refine LeO.bind ?_ (fun _ => ?_)
  ·intro y0 y1 y2 y3 y4 y5 y6
   unfold impl_AutoOk.l0
   repeat' first
   | (with_reducible exact ih0 _ _ _ _ _)
   | (with_reducible exact ih1 _ _ _ _ _ _ _)
   | (with_reducible exact ih2 _ _ _ _ _ _ _ _ _ _ _ _ _)
   | (with_reducible exact impl_compareEdges.mono _ _ _ _ _ _ _ _ _)
   | (with_reducible exact LeO.refl _)
   | (with_reducible exact LeO.none _)
   | (with_reducible refine LeO.ite ?_ ?_)
   | (with_reducible refine LeO.bind ?_ (fun _ => ?_))
   | exact ih0 _ _ _ _ _
   | exact ih1 _ _ _ _ _ _ _
   | exact ih2 _ _ _ _ _ _ _ _ _ _ _ _ _
   | exact impl_compareEdges.mono _ _ _ _ _ _ _ _ _
   | exact LeO.none _
   | refine LeO.ite ?_ ?_
   | refine LeO.bind ?_ (fun _ => ?_)
  ·intro y0 y1 y2 y3 y4 y5 y6 y7 y8 y9 y10 y11 y12
   unfold impl_AutoOk.j2
   repeat' first
   | (with_reducible exact ih0 _ _ _ _ _)
   | (with_reducible exact ih1 _ _ _ _ _ _ _)
   | (with_reducible exact ih2 _ _ _ _ _ _ _ _ _ _ _ _ _)
   | (with_reducible exact impl_compareEdges.mono _ _ _ _ _ _ _ _ _)
   | (with_reducible exact LeO.refl _)
   | (with_reducible exact LeO.none _)
   | (with_reducible refine LeO.ite ?_ ?_)
   | (with_reducible refine LeO.bind ?_ (fun _ => ?_))
   | exact ih0 _ _ _ _ _
   | exact ih1 _ _ _ _ _ _ _
   | exact ih2 _ _ _ _ _ _ _ _ _ _ _ _ _
   | exact impl_compareEdges.mono _ _ _ _ _ _ _ _ _
   | exact LeO.none _
   | refine LeO.ite ?_ ?_
   | refine LeO.bind ?_ (fun _ => ?_)
theorem impl_AutoOk.mono : ∀ a0 a1 a2 a3 k, LeO (impl_AutoOk.f k a0 a1 a2 a3) (impl_AutoOk.f (k + 1) a0 a1 a2 a3) := by
 intro a0 a1 a2 a3 k
 obtain ⟨ih0, ih1, ih2⟩ := impl_AutoOk.mono_l k
 unfold impl_AutoOk.f
 repeat' first
   | (with_reducible exact ih0 _ _ _ _ _)
   | (with_reducible exact ih1 _ _ _ _ _ _ _)
   | (with_reducible exact ih2 _ _ _ _ _ _ _ _ _ _ _ _ _)
   | (with_reducible exact impl_compareEdges.mono _ _ _ _ _ _ _ _ _)
   | (with_reducible exact LeO.refl _)
   | (with_reducible exact LeO.none _)
   | (with_reducible refine LeO.ite ?_ ?_)
   | (with_reducible refine LeO.bind ?_ (fun _ => ?_))
   | exact ih0 _ _ _ _ _
   | exact ih1 _ _ _ _ _ _ _
   | exact ih2 _ _ _ _ _ _ _ _ _ _ _ _ _
   | exact impl_compareEdges.mono _ _ _ _ _ _ _ _ _
   | exact LeO.none _
   | refine LeO.ite ?_ ?_
   | refine LeO.bind ?_ (fun _ => ?_)
def impl_AutoOk.T8 : Bool × List (List Nat × List Nat) := (true, [([], []), ([0], [0]), ([1], [1]), ([2], [2]), ([3, 2], [2, 3]), ([2], [2]), ([5, 2], [2, 5]), ([4, 6, 2], [2, 4, 6]), ([7, 2], [2, 7]), ([2], [2]), ([8, 9, 2, 2], [2, 8, 9]), ([10, 2], [2, 10]), ([2, 11], [2, 11])])
def impl_AutoOk.B8 : List Nat := [0, 1, 3, 7, 15, 7, 39, 127, 255, 7, 1023, 2047, 4095]
theorem impl_AutoOk.tab8 : rtab .any (opsOf Try.f22 8) = impl_AutoOk.T8 := by kernel_rfl
theorem impl_AutoOk.bits8 : waitsOk impl_AutoOk.T8.2 impl_AutoOk.B8 = true := by kernel_rfl
open Go.Proofs.Ytlallflpicgcmaa.Short2 in
set_option maxHeartbeats 8000000 in
set_option maxRecDepth 100000 in
theorem impl_AutoOk.calls (k : Nat) (a0_0 : Int) (a0_1 : Int) (a0_2 : Int) (A0_3 : Option Addr) (c0_3 : Nat) (l0_3 : List (S68)) (r : Bool) (w : World) (hr0_3 : Kd.C k68 w A0_3 l0_3.length l0_3) (hc0_3 : l0_3.length ≤ c0_3) (h : impl_AutoOk.f k a0_0 a0_1 a0_2 l0_3 = some r) :
  Calls Try.prog 22 #[.agg #[.int .i64 a0_0, .int .i64 a0_1, .int .i64 a0_2, .slice A0_3 l0_3.length c0_3]] w fun e w' => e = .returned (.bool r) ∧ Below w.heap.size w w' := by
 have hu24 := Try.underlying24; have hu68 := Try.underlying68; have HR0_3 := Aside0.mk hr0_3; have HC0_3 := Aside0.mk hc0_3; clear hr0_3 hc0_3; have HB := Aside0.mk (Below.refl w.heap.size w); have H : ((impl_headOk.f a0_0 a0_1 a0_2).bind fun t195 => (if t195 = true then (impl_AutoOk.j0 k (decide ((l0_3.length : Int) > 2000)) a0_0 a0_1 a0_2 l0_3) else (impl_AutoOk.j0 k true a0_0 a0_1 a0_2 l0_3))) = some r := h; clear h; have HC2 := Aside0.mk H; clear H
 go_enter Try.func22, Try.ntmps22
 go_upto_region 1 with (first | ((with_reducible refine gate_dst (N := 1) rfl ?_); (try (refine gate_guard (by rfl) ?_; dsimp only)); refine box_event ?hg (N := 1) ?hd (cs := #[.int .i64 a0_0, .int .i64 a0_1, .int .i64 a0_2, .slice A0_3 l0_3.length c0_3]) (t := 24) ?hr ?_; (case hd => rfl); (case hg => rfl); (case hr => first | (go_simp; done) | (go_simp; rfl)); intro gb194 hg w3 hbox hb; have BK194 := Aside0.mk (hbox); have GW194 := xG HB hg; have GE194 := xG HB hg; replace HB := xS HB hb; clear hb hbox hg))
 (try simp only [Act.put, q3])
 go_cut [18] (fun v18 wc => ∃ (kq : Nat) (x18_1 : Bool), v18 = .bool x18_1 ∧ Aside0 (impl_AutoOk.j0 kq x18_1 a0_0 a0_1 a0_2 l0_3 = some r) ∧ Aside0 (kq ≤ k) ∧ Aside0 (wc.heap[gb194]? = some (.cells #[.int .i64 a0_0, .int .i64 a0_1, .int .i64 a0_2, (.slice A0_3 l0_3.length c0_3)] 24 (0, 0))) ∧ Aside0 (Below w.heap.size w wc))
 case first =>
  have H := HC2.out; clear HC2; replace H := Option.bind_eq_some_iff.mp H; obtain ⟨t195, A40, H⟩ := H; replace H : (if t195 = true then (impl_AutoOk.j0 k (decide ((l0_3.length : Int) > 2000)) a0_0 a0_1 a0_2 l0_3) else (impl_AutoOk.j0 k true a0_0 a0_1 a0_2 l0_3)) = some r := H; have A4 := Aside0.mk A40; clear A40
  by_cases c5 : t195 = true
  ·subst c5
   have H1 : (impl_AutoOk.j0 k (decide ((l0_3.length : Int) > 2000)) a0_0 a0_1 a0_2 l0_3) = some r := by rw [if_pos rfl] at H; exact H
   clear H; have H := H1; clear H1; have H' := Aside0.mk H; clear H; have hcz6_0 : w3.cell? ⟨gb194, 0, none⟩ = some (.int .i64 a0_0) := b1 BK194 0; have hcz6_1 : w3.cell? ⟨gb194, 1, none⟩ = some (.int .i64 a0_1) := b1 BK194 1; have hcz6_2 : w3.cell? ⟨gb194, 2, none⟩ = some (.int .i64 a0_2) := b1 BK194 2; have hcz6_3 : w3.cell? ⟨gb194, 3, none⟩ = some (.slice A0_3 l0_3.length c0_3) := b1 BK194 3; have hfz6_0 := blk_frozen BK194.out 0; have hfz6_1 := blk_frozen BK194.out 1; have hfz6_2 := blk_frozen BK194.out 2; have hfz6_3 := blk_frozen BK194.out 3
   go_wp2_with (first | ((with_reducible refine gate_callee (f := 68) rfl ?_); refine goesL_ (some 11) rfl rfl Try.func68 (by kernel_rfl) rfl #[.int .i64 a0_0, .int .i64 a0_1, .int .i64 a0_2] rfl (by (try simp only [m3]); first | done | rfl | (simp only [d2]; rfl)) ?_; (with_reducible refine (impl_headOk.calls a0_0 a0_1 a0_2 true _ A4.out).mono ?_); rintro e w' ⟨rfl, ⟨nd, rfl⟩⟩; refine ⟨_, rfl, ?_⟩))
   go_meet
   case rel => exact ⟨_, (decide ((l0_3.length : Int) > 2000)), (by first | rfl | (simp; done) | (simp [*]; done)), H', ⟨by first | omega | exact Nat.le_refl _⟩, ⟨zB BK194.out⟩, ⟨zS HB.out⟩⟩
  ·replace c5 := Bool.eq_false_iff.mpr c5; subst c5
   have H1 : (impl_AutoOk.j0 k true a0_0 a0_1 a0_2 l0_3) = some r := by rw [if_neg (show ¬ (false = true) by decide)] at H; exact H
   clear H; have H := H1; clear H1; have H' := Aside0.mk H; clear H; have hcz7_0 : w3.cell? ⟨gb194, 0, none⟩ = some (.int .i64 a0_0) := b1 BK194 0; have hcz7_1 : w3.cell? ⟨gb194, 1, none⟩ = some (.int .i64 a0_1) := b1 BK194 1; have hcz7_2 : w3.cell? ⟨gb194, 2, none⟩ = some (.int .i64 a0_2) := b1 BK194 2; have hcz7_3 : w3.cell? ⟨gb194, 3, none⟩ = some (.slice A0_3 l0_3.length c0_3) := b1 BK194 3; have hfz7_0 := blk_frozen BK194.out 0; have hfz7_1 := blk_frozen BK194.out 1; have hfz7_2 := blk_frozen BK194.out 2; have hfz7_3 := blk_frozen BK194.out 3
   go_wp2_with (first | ((with_reducible refine gate_callee (f := 68) rfl ?_); refine goesL_ (some 11) rfl rfl Try.func68 (by kernel_rfl) rfl #[.int .i64 a0_0, .int .i64 a0_1, .int .i64 a0_2] rfl (by (try simp only [m3]); first | done | rfl | (simp only [d2]; rfl)) ?_; (with_reducible refine (impl_headOk.calls a0_0 a0_1 a0_2 false _ A4.out).mono ?_); rintro e w' ⟨rfl, ⟨nd, rfl⟩⟩; refine ⟨_, rfl, ?_⟩))
   go_meet
   case rel => exact ⟨_, (true), (by first | rfl | (simp; done) | (simp [*]; done)), H', ⟨by first | omega | exact Nat.le_refl _⟩, ⟨zB BK194.out⟩, ⟨zS HB.out⟩⟩
 case rest =>
  clear HC2
  try clear c2
  try clear p2
  try clear c5
  try clear c6
  try clear hcz6_0
  try clear hcz6_1
  try clear hcz6_2
  try clear hcz6_3
  try clear hcz7_0
  try clear hcz7_1
  try clear hcz7_2
  try clear hcz7_3
  try clear hfz6_0
  try clear hfz6_1
  try clear hfz6_2
  try clear hfz6_3
  try clear hfz7_0
  try clear hfz7_1
  try clear hfz7_2
  try clear hfz7_3
  obtain ⟨kq, x18_1, rfl, HA, HJ1, BK194, HB⟩ := hcut
  cases kq with
  | zero => exact absurd HA.out (by simp [impl_AutoOk.j0])
  | succ kj1 =>
   have H := HA.out; clear HA; simp only [impl_AutoOk.j0] at H
   by_cases c8 : x18_1 = true
   ·subst c8
    have H1 : (some false) = some r := by rw [if_pos rfl] at H; exact H
    clear H; have H := H1; clear H1; obtain rfl := Option.some.inj H
    go_wp2
    go_ret; exact ⟨by first | rfl | (simp [errW_none, errW_some] <;> rfl) | (simp [*, errW_none, errW_some] <;> rfl), by repeat (first | (with_reducible first | exact HB.out | apply below_alloc | apply pw_below_drewN | apply below_drew1 | refine below_set ?_ GE194.out) | exact HB.out)⟩
   ·replace c8 := Bool.eq_false_iff.mpr c8; subst c8
    have H1 : (impl_AutoOk.l0 kj1 l0_3 (l0_3.length : Int) 0 a0_0 a0_1 a0_2 l0_3) = some r := by rw [if_neg (show ¬ (false = true) by decide)] at H; exact H
    clear H; have H := H1; clear H1; have H' := Aside0.mk H; clear H; have hcz9_0 : wc.cell? ⟨gb194, 0, none⟩ = some (.int .i64 a0_0) := b1 BK194 0; have hcz9_1 : wc.cell? ⟨gb194, 1, none⟩ = some (.int .i64 a0_1) := b1 BK194 1; have hcz9_2 : wc.cell? ⟨gb194, 2, none⟩ = some (.int .i64 a0_2) := b1 BK194 2; have hcz9_3 : wc.cell? ⟨gb194, 3, none⟩ = some (.slice A0_3 l0_3.length c0_3) := b1 BK194 3; have hfz9_0 := blk_frozen BK194.out 0; have hfz9_1 := blk_frozen BK194.out 1; have hfz9_2 := blk_frozen BK194.out 2; have hfz9_3 := blk_frozen BK194.out 3
    go_wp2
    go_loopg [22] kj1 (fun kq v22 w' => ∃ (x22_2 : Int), v22 = .int .i64 x22_2 ∧ Aside0 (impl_AutoOk.l0 kq l0_3 (l0_3.length : Int) x22_2 a0_0 a0_1 a0_2 l0_3 = some r) ∧ Aside0 (kq ≤ kj1) ∧ Aside0 (w'.heap[gb194]? = some (.cells #[.int .i64 a0_0, .int .i64 a0_1, .int .i64 a0_2, (.slice A0_3 l0_3.length c0_3)] 24 (0, 0))) ∧ Aside0 (Below w.heap.size w w'))
    case atStart => exact ⟨(0), (by first | rfl | (simp; done) | (simp [*]; done)), H', ⟨Nat.le_refl _⟩, ⟨zB BK194.out⟩, ⟨zS HB.out⟩⟩
    case round =>
     clear H'
     try clear c2
     try clear p2
     try clear c5
     try clear c6
     try clear c8
     try clear hcz6_0
     try clear hcz6_1
     try clear hcz6_2
     try clear hcz6_3
     try clear hcz7_0
     try clear hcz7_1
     try clear hcz7_2
     try clear hcz7_3
     try clear hcz9_0
     try clear hcz9_1
     try clear hcz9_2
     try clear hcz9_3
     try clear hfz6_0
     try clear hfz6_1
     try clear hfz6_2
     try clear hfz6_3
     try clear hfz7_0
     try clear hfz7_1
     try clear hfz7_2
     try clear hfz7_3
     try clear hfz9_0
     try clear hfz9_1
     try clear hfz9_2
     try clear hfz9_3
     try clear p2
     obtain ⟨x22_2, rfl, HA, HK2, BK194, HB⟩ := hrel
     cases gk with
     | zero => exact absurd HA.out (by simp [impl_AutoOk.l0])
     | succ k2 =>
      have H := HA.out; clear HA; simp only [impl_AutoOk.l0] at H
      by_cases c10 : x22_2 < (l0_3.length : Int)
      ·rw [if_pos c10] at H; have c10b0 : decide (x22_2 < (l0_3.length : Int)) = true := decide_eq_true c10; clear c10
       by_cases c11 : 0 ≤ x22_2
       ·rw [if_pos c11] at H; have c11b0 : decide (0 ≤ x22_2) = true := decide_eq_true c11; clear c11
        by_cases c12 : x22_2 < (l0_3.length : Int)
        ·rw [if_pos c12] at H; have c12b0 : decide (x22_2 < (l0_3.length : Int)) = true := decide_eq_true c12; clear c12; have HC13 := Aside0.mk H; clear H; have p196 : 0 ≤ (x22_2 : Int) := of_decide_eq_true (by first | (with_reducible assumption) | assumption); have q196 : x22_2 < (l0_3.length : Int) := of_decide_eq_true (by first | (with_reducible assumption) | assumption); obtain ⟨ad196, e196, hx196_0, hx196_1, hx196_2, hx196_3⟩ := at_T68 HR0_3.out x22_2 p196 q196
         cases e196
         replace hx196_0 := (HB.out.cell (World.block_lt_of_cell? w _ hx196_0)).trans hx196_0; replace hx196_1 := (HB.out.cell (World.block_lt_of_cell? w _ hx196_1)).trans hx196_1; replace hx196_2 := (HB.out.cell (World.block_lt_of_cell? w _ hx196_2)).trans hx196_2; replace hx196_3 := (HB.out.cell (World.block_lt_of_cell? w _ hx196_3)).trans hx196_3; replace p196 := eq_true p196; replace q196 := eq_true q196
         go_upto_region 6 with (first | ((with_reducible refine gate_dst (N := 4) rfl ?_); (try (refine gate_guard (by rfl) ?_; dsimp only)); refine box_event ?hg (N := 4) ?hd (cs := #[.int .i64 0, .int .i64 0, .int .i64 0, .bool false]) (t := 68) ?hr ?_; (case hd => rfl); (case hg => rfl); (case hr => first | (go_simp; done) | (go_simp; rfl)); intro gb197 hg w14 hbox hb; have BK197 := Aside0.mk (hbox); have GW197 := xG HB hg; have GE197 := xG HB hg; replace HB := xS HB hb; have NB194_197 := xN BK194 hg; have NB197_194 := xM BK194 hg; replace BK194 := xB BK194 hb; clear hb hbox hg; have hnb15 := NB197_194.out; have hnc15 := NB194_197.out; have hcz16_0 : w14.cell? ⟨gb197, 0, none⟩ = some (.int .i64 0) := b1 BK197 0; have hcz16_1 : w14.cell? ⟨gb197, 1, none⟩ = some (.int .i64 0) := b1 BK197 1; have hcz16_2 : w14.cell? ⟨gb197, 2, none⟩ = some (.int .i64 0) := b1 BK197 2; have hcz16_3 : w14.cell? ⟨gb197, 3, none⟩ = some (.bool false) := b1 BK197 3; have hfz16_0 := blk_frozen BK197.out 0; have hfz16_1 := blk_frozen BK197.out 1; have hfz16_2 := blk_frozen BK197.out 2; have hfz16_3 := blk_frozen BK197.out 3))
         (try simp only [Act.put, q3])
         go_cut [51] (fun v51 wc => ∃ (kq : Nat) (x51_12 : Bool), v51 = .bool x51_12 ∧ Aside0 (impl_AutoOk.j2 kq x22_2 l0_3 (l0_3.length : Int) x22_2 x51_12 a0_0 a0_1 a0_2 l0_3 ((rd_T68 l0_3 x22_2).f0) ((rd_T68 l0_3 x22_2).f1) ((rd_T68 l0_3 x22_2).f2) ((rd_T68 l0_3 x22_2).f3) = some r) ∧ Aside0 (kq ≤ k2) ∧ Aside0 (wc.heap[gb194]? = some (.cells #[.int .i64 a0_0, .int .i64 a0_1, .int .i64 a0_2, (.slice (some ad196) l0_3.length c0_3)] 24 (0, 0))) ∧ Aside0 (wc.heap[gb197]? = some (.cells #[.int .i64 ((rd_T68 l0_3 x22_2).f0), .int .i64 ((rd_T68 l0_3 x22_2).f1), .int .i64 ((rd_T68 l0_3 x22_2).f2), .bool ((rd_T68 l0_3 x22_2).f3)] 68 (0, 0))) ∧ Aside0 (Below w.heap.size w wc))
         case first =>
          have H := HC13.out; clear HC13; replace H := Option.bind_eq_some_iff.mp H; obtain ⟨t198, A170, H⟩ := H; replace H : (if t198 = true then ((impl_inRange.f ((rd_T68 l0_3 x22_2).f2) 0 (wrap64 (a0_1 - 1))).bind fun t199 => (if t199 = true then ((impl_inRange.f ((rd_T68 l0_3 x22_2).f1) 0 (wrap64 (a0_0 - 1))).bind fun t200 => (impl_AutoOk.j2 k2 x22_2 l0_3 (l0_3.length : Int) x22_2 (!t200) a0_0 a0_1 a0_2 l0_3 ((rd_T68 l0_3 x22_2).f0) ((rd_T68 l0_3 x22_2).f1) ((rd_T68 l0_3 x22_2).f2) ((rd_T68 l0_3 x22_2).f3))) else (impl_AutoOk.j2 k2 x22_2 l0_3 (l0_3.length : Int) x22_2 true a0_0 a0_1 a0_2 l0_3 ((rd_T68 l0_3 x22_2).f0) ((rd_T68 l0_3 x22_2).f1) ((rd_T68 l0_3 x22_2).f2) ((rd_T68 l0_3 x22_2).f3)))) else (impl_AutoOk.j2 k2 x22_2 l0_3 (l0_3.length : Int) x22_2 true a0_0 a0_1 a0_2 l0_3 ((rd_T68 l0_3 x22_2).f0) ((rd_T68 l0_3 x22_2).f1) ((rd_T68 l0_3 x22_2).f2) ((rd_T68 l0_3 x22_2).f3))) = some r := H; have A17 := Aside0.mk A170; clear A170
          by_cases c18 : t198 = true
          ·subst c18
           have H1 : ((impl_inRange.f ((rd_T68 l0_3 x22_2).f2) 0 (wrap64 (a0_1 - 1))).bind fun t199 => (if t199 = true then ((impl_inRange.f ((rd_T68 l0_3 x22_2).f1) 0 (wrap64 (a0_0 - 1))).bind fun t200 => (impl_AutoOk.j2 k2 x22_2 l0_3 (l0_3.length : Int) x22_2 (!t200) a0_0 a0_1 a0_2 l0_3 ((rd_T68 l0_3 x22_2).f0) ((rd_T68 l0_3 x22_2).f1) ((rd_T68 l0_3 x22_2).f2) ((rd_T68 l0_3 x22_2).f3))) else (impl_AutoOk.j2 k2 x22_2 l0_3 (l0_3.length : Int) x22_2 true a0_0 a0_1 a0_2 l0_3 ((rd_T68 l0_3 x22_2).f0) ((rd_T68 l0_3 x22_2).f1) ((rd_T68 l0_3 x22_2).f2) ((rd_T68 l0_3 x22_2).f3)))) = some r := by rw [if_pos rfl] at H; exact H
           clear H; have H := H1; clear H1; replace H := Option.bind_eq_some_iff.mp H; obtain ⟨t199, A190, H⟩ := H; replace H : (if t199 = true then ((impl_inRange.f ((rd_T68 l0_3 x22_2).f1) 0 (wrap64 (a0_0 - 1))).bind fun t200 => (impl_AutoOk.j2 k2 x22_2 l0_3 (l0_3.length : Int) x22_2 (!t200) a0_0 a0_1 a0_2 l0_3 ((rd_T68 l0_3 x22_2).f0) ((rd_T68 l0_3 x22_2).f1) ((rd_T68 l0_3 x22_2).f2) ((rd_T68 l0_3 x22_2).f3))) else (impl_AutoOk.j2 k2 x22_2 l0_3 (l0_3.length : Int) x22_2 true a0_0 a0_1 a0_2 l0_3 ((rd_T68 l0_3 x22_2).f0) ((rd_T68 l0_3 x22_2).f1) ((rd_T68 l0_3 x22_2).f2) ((rd_T68 l0_3 x22_2).f3))) = some r := H; have A19 := Aside0.mk A190; clear A190
           by_cases c20 : t199 = true
           ·subst c20
            have H1 : ((impl_inRange.f ((rd_T68 l0_3 x22_2).f1) 0 (wrap64 (a0_0 - 1))).bind fun t200 => (impl_AutoOk.j2 k2 x22_2 l0_3 (l0_3.length : Int) x22_2 (!t200) a0_0 a0_1 a0_2 l0_3 ((rd_T68 l0_3 x22_2).f0) ((rd_T68 l0_3 x22_2).f1) ((rd_T68 l0_3 x22_2).f2) ((rd_T68 l0_3 x22_2).f3))) = some r := by rw [if_pos rfl] at H; exact H
            clear H; have H := H1; clear H1; replace H := Option.bind_eq_some_iff.mp H; obtain ⟨t200, A210, H⟩ := H; replace H : (impl_AutoOk.j2 k2 x22_2 l0_3 (l0_3.length : Int) x22_2 (!t200) a0_0 a0_1 a0_2 l0_3 ((rd_T68 l0_3 x22_2).f0) ((rd_T68 l0_3 x22_2).f1) ((rd_T68 l0_3 x22_2).f2) ((rd_T68 l0_3 x22_2).f3)) = some r := H; have A21 := Aside0.mk A210; clear A210; have H' := Aside0.mk H; clear H; have hnb22 := NB197_194.out; have hnc22 := NB194_197.out; have hcz23_0 : w14.cell? ⟨gb197, 0, none⟩ = some (.int .i64 0) := b1 BK197 0; have hcz23_1 : w14.cell? ⟨gb197, 1, none⟩ = some (.int .i64 0) := b1 BK197 1; have hcz23_2 : w14.cell? ⟨gb197, 2, none⟩ = some (.int .i64 0) := b1 BK197 2; have hcz23_3 : w14.cell? ⟨gb197, 3, none⟩ = some (.bool false) := b1 BK197 3; have hfz23_0 := blk_frozen BK197.out 0; have hfz23_1 := blk_frozen BK197.out 1; have hfz23_2 := blk_frozen BK197.out 2; have hfz23_3 := blk_frozen BK197.out 3; have hcz24_0 : w14.cell? ⟨gb194, 0, none⟩ = some (.int .i64 a0_0) := b1 BK194 0; have hcz24_1 : w14.cell? ⟨gb194, 1, none⟩ = some (.int .i64 a0_1) := b1 BK194 1; have hcz24_2 : w14.cell? ⟨gb194, 2, none⟩ = some (.int .i64 a0_2) := b1 BK194 2; have hcz24_3 : w14.cell? ⟨gb194, 3, none⟩ = some (.slice (some ad196) l0_3.length c0_3) := b1 BK194 3; have hfz24_0 := blk_frozen BK194.out 0; have hfz24_1 := blk_frozen BK194.out 1; have hfz24_2 := blk_frozen BK194.out 2; have hfz24_3 := blk_frozen BK194.out 3
            go_wp2_with (first | ((with_reducible refine gate_callee (f := 69) rfl ?_); refine goesL_ (some 32) rfl rfl Try.func69 (by kernel_rfl) rfl #[.int .i64 ((rd_T68 l0_3 x22_2).f0), .int .i64 0, .int .i64 (wrap64 (a0_1 - 1))] rfl (by (try simp only [m3]); first | done | rfl | (simp only [d2]; rfl)) ?_; (with_reducible refine (impl_inRange.calls ((rd_T68 l0_3 x22_2).f0) 0 (wrap64 (a0_1 - 1)) true _ A17.out).mono ?_); rintro e w' ⟨rfl, ⟨nd, rfl⟩⟩; refine ⟨_, rfl, ?_⟩) | (go_at_call 69; (with_reducible refine (impl_inRange.calls ((rd_T68 l0_3 x22_2).f2) 0 (wrap64 (a0_1 - 1)) true _ A19.out).mono ?_); rintro e w' ⟨rfl, ⟨nd, rfl⟩⟩) | (go_at_call 69; (with_reducible refine (impl_inRange.calls ((rd_T68 l0_3 x22_2).f1) 0 (wrap64 (a0_0 - 1)) t200 _ A21.out).mono ?_); rintro e w' ⟨rfl, ⟨nd, rfl⟩⟩))
            go_meet
            case rel => exact ⟨_, (!t200), (by first | rfl | (simp; done) | (simp [*]; done)), H', ⟨by have := HJ1.out; have := HK2.out; first | omega | exact Nat.le_refl _⟩, ⟨zB BK194.out⟩, ⟨by (with_reducible repeat (first | refine blk_drewN ?_ _ | refine blk_drew ?_ | refine blk_alloc ?_ _)); refine blk_put (cs := #[.int .i64 ((rd_T68 l0_3 x22_2).f0), .int .i64 ((rd_T68 l0_3 x22_2).f1), .int .i64 ((rd_T68 l0_3 x22_2).f2), .bool false]) ?_ 3 _ rfl; (with_reducible repeat (first | refine blk_drewN ?_ _ | refine blk_drew ?_ | refine blk_alloc ?_ _)); refine blk_put (cs := #[.int .i64 ((rd_T68 l0_3 x22_2).f0), .int .i64 ((rd_T68 l0_3 x22_2).f1), .int .i64 0, .bool false]) ?_ 2 _ rfl; (with_reducible repeat (first | refine blk_drewN ?_ _ | refine blk_drew ?_ | refine blk_alloc ?_ _)); refine blk_put (cs := #[.int .i64 ((rd_T68 l0_3 x22_2).f0), .int .i64 0, .int .i64 0, .bool false]) ?_ 1 _ rfl; (with_reducible repeat (first | refine blk_drewN ?_ _ | refine blk_drew ?_ | refine blk_alloc ?_ _)); refine blk_put (cs := #[.int .i64 0, .int .i64 0, .int .i64 0, .bool false]) ?_ 0 _ rfl; (with_reducible repeat (first | refine blk_drewN ?_ _ | refine blk_drew ?_ | refine blk_alloc ?_ _)); exact BK197.out⟩, ⟨zS HB.out⟩⟩
           ·replace c20 := Bool.eq_false_iff.mpr c20; subst c20
            have H1 : (impl_AutoOk.j2 k2 x22_2 l0_3 (l0_3.length : Int) x22_2 true a0_0 a0_1 a0_2 l0_3 ((rd_T68 l0_3 x22_2).f0) ((rd_T68 l0_3 x22_2).f1) ((rd_T68 l0_3 x22_2).f2) ((rd_T68 l0_3 x22_2).f3)) = some r := by rw [if_neg (show ¬ (false = true) by decide)] at H; exact H
            clear H; have H := H1; clear H1; have H' := Aside0.mk H; clear H; have hnb25 := NB197_194.out; have hnc25 := NB194_197.out; have hcz26_0 : w14.cell? ⟨gb197, 0, none⟩ = some (.int .i64 0) := b1 BK197 0; have hcz26_1 : w14.cell? ⟨gb197, 1, none⟩ = some (.int .i64 0) := b1 BK197 1; have hcz26_2 : w14.cell? ⟨gb197, 2, none⟩ = some (.int .i64 0) := b1 BK197 2; have hcz26_3 : w14.cell? ⟨gb197, 3, none⟩ = some (.bool false) := b1 BK197 3; have hfz26_0 := blk_frozen BK197.out 0; have hfz26_1 := blk_frozen BK197.out 1; have hfz26_2 := blk_frozen BK197.out 2; have hfz26_3 := blk_frozen BK197.out 3; have hcz27_0 : w14.cell? ⟨gb194, 0, none⟩ = some (.int .i64 a0_0) := b1 BK194 0; have hcz27_1 : w14.cell? ⟨gb194, 1, none⟩ = some (.int .i64 a0_1) := b1 BK194 1; have hcz27_2 : w14.cell? ⟨gb194, 2, none⟩ = some (.int .i64 a0_2) := b1 BK194 2; have hcz27_3 : w14.cell? ⟨gb194, 3, none⟩ = some (.slice (some ad196) l0_3.length c0_3) := b1 BK194 3; have hfz27_0 := blk_frozen BK194.out 0; have hfz27_1 := blk_frozen BK194.out 1; have hfz27_2 := blk_frozen BK194.out 2; have hfz27_3 := blk_frozen BK194.out 3
            go_wp2_with (first | ((with_reducible refine gate_callee (f := 69) rfl ?_); refine goesL_ (some 32) rfl rfl Try.func69 (by kernel_rfl) rfl #[.int .i64 ((rd_T68 l0_3 x22_2).f0), .int .i64 0, .int .i64 (wrap64 (a0_1 - 1))] rfl (by (try simp only [m3]); first | done | rfl | (simp only [d2]; rfl)) ?_; (with_reducible refine (impl_inRange.calls ((rd_T68 l0_3 x22_2).f0) 0 (wrap64 (a0_1 - 1)) true _ A17.out).mono ?_); rintro e w' ⟨rfl, ⟨nd, rfl⟩⟩; refine ⟨_, rfl, ?_⟩) | (go_at_call 69; (with_reducible refine (impl_inRange.calls ((rd_T68 l0_3 x22_2).f2) 0 (wrap64 (a0_1 - 1)) false _ A19.out).mono ?_); rintro e w' ⟨rfl, ⟨nd, rfl⟩⟩))
            go_meet
            case rel => exact ⟨_, (true), (by first | rfl | (simp; done) | (simp [*]; done)), H', ⟨by have := HJ1.out; have := HK2.out; first | omega | exact Nat.le_refl _⟩, ⟨zB BK194.out⟩, ⟨by (with_reducible repeat (first | refine blk_drewN ?_ _ | refine blk_drew ?_ | refine blk_alloc ?_ _)); refine blk_put (cs := #[.int .i64 ((rd_T68 l0_3 x22_2).f0), .int .i64 ((rd_T68 l0_3 x22_2).f1), .int .i64 ((rd_T68 l0_3 x22_2).f2), .bool false]) ?_ 3 _ rfl; (with_reducible repeat (first | refine blk_drewN ?_ _ | refine blk_drew ?_ | refine blk_alloc ?_ _)); refine blk_put (cs := #[.int .i64 ((rd_T68 l0_3 x22_2).f0), .int .i64 ((rd_T68 l0_3 x22_2).f1), .int .i64 0, .bool false]) ?_ 2 _ rfl; (with_reducible repeat (first | refine blk_drewN ?_ _ | refine blk_drew ?_ | refine blk_alloc ?_ _)); refine blk_put (cs := #[.int .i64 ((rd_T68 l0_3 x22_2).f0), .int .i64 0, .int .i64 0, .bool false]) ?_ 1 _ rfl; (with_reducible repeat (first | refine blk_drewN ?_ _ | refine blk_drew ?_ | refine blk_alloc ?_ _)); refine blk_put (cs := #[.int .i64 0, .int .i64 0, .int .i64 0, .bool false]) ?_ 0 _ rfl; (with_reducible repeat (first | refine blk_drewN ?_ _ | refine blk_drew ?_ | refine blk_alloc ?_ _)); exact BK197.out⟩, ⟨zS HB.out⟩⟩
          ·replace c18 := Bool.eq_false_iff.mpr c18; subst c18
           have H1 : (impl_AutoOk.j2 k2 x22_2 l0_3 (l0_3.length : Int) x22_2 true a0_0 a0_1 a0_2 l0_3 ((rd_T68 l0_3 x22_2).f0) ((rd_T68 l0_3 x22_2).f1) ((rd_T68 l0_3 x22_2).f2) ((rd_T68 l0_3 x22_2).f3)) = some r := by rw [if_neg (show ¬ (false = true) by decide)] at H; exact H
           clear H; have H := H1; clear H1; have H' := Aside0.mk H; clear H; have hnb28 := NB197_194.out; have hnc28 := NB194_197.out; have hcz29_0 : w14.cell? ⟨gb197, 0, none⟩ = some (.int .i64 0) := b1 BK197 0; have hcz29_1 : w14.cell? ⟨gb197, 1, none⟩ = some (.int .i64 0) := b1 BK197 1; have hcz29_2 : w14.cell? ⟨gb197, 2, none⟩ = some (.int .i64 0) := b1 BK197 2; have hcz29_3 : w14.cell? ⟨gb197, 3, none⟩ = some (.bool false) := b1 BK197 3; have hfz29_0 := blk_frozen BK197.out 0; have hfz29_1 := blk_frozen BK197.out 1; have hfz29_2 := blk_frozen BK197.out 2; have hfz29_3 := blk_frozen BK197.out 3; have hcz30_0 : w14.cell? ⟨gb194, 0, none⟩ = some (.int .i64 a0_0) := b1 BK194 0; have hcz30_1 : w14.cell? ⟨gb194, 1, none⟩ = some (.int .i64 a0_1) := b1 BK194 1; have hcz30_2 : w14.cell? ⟨gb194, 2, none⟩ = some (.int .i64 a0_2) := b1 BK194 2; have hcz30_3 : w14.cell? ⟨gb194, 3, none⟩ = some (.slice (some ad196) l0_3.length c0_3) := b1 BK194 3; have hfz30_0 := blk_frozen BK194.out 0; have hfz30_1 := blk_frozen BK194.out 1; have hfz30_2 := blk_frozen BK194.out 2; have hfz30_3 := blk_frozen BK194.out 3
           go_wp2_with (first | ((with_reducible refine gate_callee (f := 69) rfl ?_); refine goesL_ (some 32) rfl rfl Try.func69 (by kernel_rfl) rfl #[.int .i64 ((rd_T68 l0_3 x22_2).f0), .int .i64 0, .int .i64 (wrap64 (a0_1 - 1))] rfl (by (try simp only [m3]); first | done | rfl | (simp only [d2]; rfl)) ?_; (with_reducible refine (impl_inRange.calls ((rd_T68 l0_3 x22_2).f0) 0 (wrap64 (a0_1 - 1)) false _ A17.out).mono ?_); rintro e w' ⟨rfl, ⟨nd, rfl⟩⟩; refine ⟨_, rfl, ?_⟩))
           go_meet
           case rel => exact ⟨_, (true), (by first | rfl | (simp; done) | (simp [*]; done)), H', ⟨by have := HJ1.out; have := HK2.out; first | omega | exact Nat.le_refl _⟩, ⟨zB BK194.out⟩, ⟨by (with_reducible repeat (first | refine blk_drewN ?_ _ | refine blk_drew ?_ | refine blk_alloc ?_ _)); refine blk_put (cs := #[.int .i64 ((rd_T68 l0_3 x22_2).f0), .int .i64 ((rd_T68 l0_3 x22_2).f1), .int .i64 ((rd_T68 l0_3 x22_2).f2), .bool false]) ?_ 3 _ rfl; (with_reducible repeat (first | refine blk_drewN ?_ _ | refine blk_drew ?_ | refine blk_alloc ?_ _)); refine blk_put (cs := #[.int .i64 ((rd_T68 l0_3 x22_2).f0), .int .i64 ((rd_T68 l0_3 x22_2).f1), .int .i64 0, .bool false]) ?_ 2 _ rfl; (with_reducible repeat (first | refine blk_drewN ?_ _ | refine blk_drew ?_ | refine blk_alloc ?_ _)); refine blk_put (cs := #[.int .i64 ((rd_T68 l0_3 x22_2).f0), .int .i64 0, .int .i64 0, .bool false]) ?_ 1 _ rfl; (with_reducible repeat (first | refine blk_drewN ?_ _ | refine blk_drew ?_ | refine blk_alloc ?_ _)); refine blk_put (cs := #[.int .i64 0, .int .i64 0, .int .i64 0, .bool false]) ?_ 0 _ rfl; (with_reducible repeat (first | refine blk_drewN ?_ _ | refine blk_drew ?_ | refine blk_alloc ?_ _)); exact BK197.out⟩, ⟨zS HB.out⟩⟩
         case rest =>
          clear HC13
          try clear c1
          try clear p1
          try clear q1
          try clear hx1
          try clear c2
          try clear p2
          try clear c5
          try clear c6
          try clear p6
          try clear c8
          try clear c10
          try clear c10b0
          try clear c11
          try clear c11b0
          try clear c12
          try clear c12b0
          try clear c15
          try clear c18
          try clear p19
          try clear q19
          try clear hx19
          try clear c20
          try clear c22
          try clear c25
          try clear c28
          try clear hcz16_0
          try clear hcz16_1
          try clear hcz16_2
          try clear hcz16_3
          try clear hcz23_0
          try clear hcz23_1
          try clear hcz23_2
          try clear hcz23_3
          try clear hcz24_0
          try clear hcz24_1
          try clear hcz24_2
          try clear hcz24_3
          try clear hcz26_0
          try clear hcz26_1
          try clear hcz26_2
          try clear hcz26_3
          try clear hcz27_0
          try clear hcz27_1
          try clear hcz27_2
          try clear hcz27_3
          try clear hcz29_0
          try clear hcz29_1
          try clear hcz29_2
          try clear hcz29_3
          try clear hcz30_0
          try clear hcz30_1
          try clear hcz30_2
          try clear hcz30_3
          try clear hcz6_0
          try clear hcz6_1
          try clear hcz6_2
          try clear hcz6_3
          try clear hcz7_0
          try clear hcz7_1
          try clear hcz7_2
          try clear hcz7_3
          try clear hcz9_0
          try clear hcz9_1
          try clear hcz9_2
          try clear hcz9_3
          try clear hfz16_0
          try clear hfz16_1
          try clear hfz16_2
          try clear hfz16_3
          try clear hfz23_0
          try clear hfz23_1
          try clear hfz23_2
          try clear hfz23_3
          try clear hfz24_0
          try clear hfz24_1
          try clear hfz24_2
          try clear hfz24_3
          try clear hfz26_0
          try clear hfz26_1
          try clear hfz26_2
          try clear hfz26_3
          try clear hfz27_0
          try clear hfz27_1
          try clear hfz27_2
          try clear hfz27_3
          try clear hfz29_0
          try clear hfz29_1
          try clear hfz29_2
          try clear hfz29_3
          try clear hfz30_0
          try clear hfz30_1
          try clear hfz30_2
          try clear hfz30_3
          try clear hfz6_0
          try clear hfz6_1
          try clear hfz6_2
          try clear hfz6_3
          try clear hfz7_0
          try clear hfz7_1
          try clear hfz7_2
          try clear hfz7_3
          try clear hfz9_0
          try clear hfz9_1
          try clear hfz9_2
          try clear hfz9_3
          try clear hx196_0
          try clear hx196_1
          try clear hx196_2
          try clear hx196_3
          try clear p196
          try clear p2
          try clear q196
          obtain ⟨kq, x51_12, rfl, HA, HJ12, BK194, BK197, HB⟩ := hcut
          cases kq with
          | zero => exact absurd HA.out (by simp [impl_AutoOk.j2])
          | succ kj12 =>
           have H := HA.out; clear HA; simp only [impl_AutoOk.j2] at H
           by_cases c31 : x51_12 = true
           ·subst c31
            have H1 : (some false) = some r := by rw [if_pos rfl] at H; exact H
            clear H; have H := H1; clear H1; obtain rfl := Option.some.inj H
            go_wp2
            go_ret; exact ⟨by first | rfl | (simp [errW_none, errW_some] <;> rfl) | (simp [*, errW_none, errW_some] <;> rfl), by repeat (first | (with_reducible first | exact HB.out | apply below_alloc | apply pw_below_drewN | apply below_drew1 | refine below_set ?_ GE194.out | refine below_set ?_ GE197.out) | exact HB.out)⟩
           ·replace c31 := Bool.eq_false_iff.mpr c31; subst c31
            have H1 : (if x22_2 > 0 then (if 0 ≤ (wrap64 (x22_2 - 1)) then (if (wrap64 (x22_2 - 1)) < (l0_3.length : Int) then ((impl_compareEdges.f kj12 ((rd_T68 l0_3 (wrap64 (x22_2 - 1))).f0) ((rd_T68 l0_3 (wrap64 (x22_2 - 1))).f1) ((rd_T68 l0_3 (wrap64 (x22_2 - 1))).f2) ((rd_T68 l0_3 (wrap64 (x22_2 - 1))).f3) ((rd_T68 l0_3 x22_2).f0) ((rd_T68 l0_3 x22_2).f1) ((rd_T68 l0_3 x22_2).f2) ((rd_T68 l0_3 x22_2).f3)).bind fun t202 => (if t202 ≥ 0 then (some false) else (impl_AutoOk.l0 kj12 l0_3 (l0_3.length : Int) (wrap64 (x22_2 + 1)) a0_0 a0_1 a0_2 l0_3))) else (none)) else (none)) else (impl_AutoOk.l0 kj12 l0_3 (l0_3.length : Int) (wrap64 (x22_2 + 1)) a0_0 a0_1 a0_2 l0_3)) = some r := by rw [if_neg (show ¬ (false = true) by decide)] at H; exact H
            clear H; have H := H1; clear H1
            by_cases c32 : x22_2 > 0
            ·rw [if_pos c32] at H; have c32b0 : decide (0 < x22_2) = true := decide_eq_true c32; clear c32; obtain ⟨ji33, hji33⟩ : ∃ j_ : Int, (wrap64 (x22_2 - 1)) = j_ := ⟨_, rfl⟩
             replace H : (if 0 ≤ (ji33) then (if (ji33) < (l0_3.length : Int) then ((impl_compareEdges.f kj12 ((rd_T68 l0_3 (ji33)).f0) ((rd_T68 l0_3 (ji33)).f1) ((rd_T68 l0_3 (ji33)).f2) ((rd_T68 l0_3 (ji33)).f3) ((rd_T68 l0_3 x22_2).f0) ((rd_T68 l0_3 x22_2).f1) ((rd_T68 l0_3 x22_2).f2) ((rd_T68 l0_3 x22_2).f3)).bind fun t202 => (if t202 ≥ 0 then (some false) else (impl_AutoOk.l0 kj12 l0_3 (l0_3.length : Int) (wrap64 (x22_2 + 1)) a0_0 a0_1 a0_2 l0_3))) else (none)) else (none)) = some r := by first | (rw [hji33] at H; exact H) | (simp only [hji33] at H ⊢; exact H)
             have hji33w : (IntKind.i64.wrap (x22_2 - 1)) = ji33 := (i64_w _).trans hji33
             by_cases c34 : 0 ≤ (ji33)
             ·rw [if_pos c34] at H; have c34b0 : decide (0 ≤ (ji33)) = true := decide_eq_true c34; clear c34
              by_cases c35 : (ji33) < (l0_3.length : Int)
              ·rw [if_pos c35] at H; have c35b0 : decide ((ji33) < (l0_3.length : Int)) = true := decide_eq_true c35; clear c35; replace H := Option.bind_eq_some_iff.mp H; obtain ⟨t202, A360, H⟩ := H; replace H : (if t202 ≥ 0 then (some false) else (impl_AutoOk.l0 kj12 l0_3 (l0_3.length : Int) (wrap64 (x22_2 + 1)) a0_0 a0_1 a0_2 l0_3)) = some r := H; have A36 := Aside0.mk A360; clear A360
               by_cases c37 : t202 ≥ 0
               ·rw [if_pos c37] at H; have c37b0 : decide (0 ≤ t202) = true := decide_eq_true c37; clear c37; obtain rfl := Option.some.inj H
                try go_wp2
                replace BK194 := Aside0.mk (blk_drew BK194.out); replace BK197 := Aside0.mk (blk_drew BK197.out); replace HB := Aside0.mk (below_drew1 HB.out); have p201 : 0 ≤ ((ji33) : Int) := of_decide_eq_true (by first | (with_reducible assumption) | assumption); have q201 : (ji33) < (l0_3.length : Int) := of_decide_eq_true (by first | (with_reducible assumption) | assumption); obtain ⟨ad201, e201, hx201_0, hx201_1, hx201_2, hx201_3⟩ := at_T68 HR0_3.out (ji33) p201 q201; have hw201_3 := hx201_3; have hw201_2 := hx201_2; have hw201_1 := hx201_1; have hw201_0 := hx201_0; obtain rfl : ad196 = ad201 := (by injection e201); replace hx201_0 := (HB.out.cell (World.block_lt_of_cell? w _ hx201_0)).trans hx201_0; replace hx201_1 := (HB.out.cell (World.block_lt_of_cell? w _ hx201_1)).trans hx201_1; replace hx201_2 := (HB.out.cell (World.block_lt_of_cell? w _ hx201_2)).trans hx201_2; replace hx201_3 := (HB.out.cell (World.block_lt_of_cell? w _ hx201_3)).trans hx201_3; replace p201 := eq_true p201; replace q201 := eq_true q201; refine start_ (n := 13) (S := fun w' => w'.cell? ⟨gb194, 0, none⟩ = some (.int .i64 a0_0) ∧ w'.cell? ⟨gb194, 1, none⟩ = some (.int .i64 a0_1) ∧ w'.cell? ⟨gb194, 2, none⟩ = some (.int .i64 a0_2) ∧ w'.cell? ⟨gb194, 3, none⟩ = some (.slice (some ad196) l0_3.length c0_3) ∧ w'.cell? ⟨gb197, 0, none⟩ = some (.int .i64 ((rd_T68 l0_3 x22_2).f0)) ∧ w'.cell? ⟨gb197, 1, none⟩ = some (.int .i64 ((rd_T68 l0_3 x22_2).f1)) ∧ w'.cell? ⟨gb197, 2, none⟩ = some (.int .i64 ((rd_T68 l0_3 x22_2).f2)) ∧ w'.cell? ⟨gb197, 3, none⟩ = some (.bool ((rd_T68 l0_3 x22_2).f3)) ∧ w'.cell? (ad196.add (((ji33)).toNat * 4)) = some (.int .i64 ((rd_T68 l0_3 (ji33)).f0)) ∧ w'.cell? ⟨(ad196.add (((ji33)).toNat * 4)).block, (ad196.add (((ji33)).toNat * 4)).off + 1, none⟩ = some (.int .i64 ((rd_T68 l0_3 (ji33)).f1)) ∧ w'.cell? ⟨(ad196.add (((ji33)).toNat * 4)).block, (ad196.add (((ji33)).toNat * 4)).off + 2, none⟩ = some (.int .i64 ((rd_T68 l0_3 (ji33)).f2)) ∧ w'.cell? ⟨(ad196.add (((ji33)).toNat * 4)).block, (ad196.add (((ji33)).toNat * 4)).off + 3, none⟩ = some (.bool ((rd_T68 l0_3 (ji33)).f3))) (ds := []) bl0 (by kernel_rfl) rfl rfl ⟨b1 BK194 0, b1 BK194 1, b1 BK194 2, b1 BK194 3, b1 BK197 0, b1 BK197 1, b1 BK197 2, b1 BK197 3, ((HB.out.cell (World.block_lt_of_cell? w _ hw201_0)).trans hw201_0), ((HB.out.cell (World.block_lt_of_cell? w _ hw201_1)).trans hw201_1), ((HB.out.cell (World.block_lt_of_cell? w _ hw201_2)).trans hw201_2), ((HB.out.cell (World.block_lt_of_cell? w _ hw201_3)).trans hw201_3)⟩ (fun hHeld => ?_); refine with_tabW impl_AutoOk.tab8 impl_AutoOk.bits8 (fun HT_ HW_ => ?_); generalize wc.drew = w38 at BK194 BK197 HB hx201_0 hx201_1 hx201_2 hx201_3 hHeld ⊢
                refine pu 0 (some 52) bl1 HT_ ?_ rfl rfl (.inl ⟨by rfl, ?_⟩) ?_ ?_ ?_; rotate_left; (intro w'; go_simp; with_reducible rfl); rotate_left; (simp only [Act.put, q5]; rfl)
                refine pu 1 (some 53) bl2 HT_ ?_ rfl rfl (.inl ⟨by rfl, ?_⟩) ?_ ?_ ?_; rotate_left; (intro w'; go_simp; with_reducible rfl); rotate_left; (simp only [Act.put, q5]; rfl)
                refine pu 2 (some 54) bl3 HT_ ?_ rfl rfl (.inl ⟨by rfl, ?_⟩) ?_ ?_ ?_; rotate_left; (intro w'; go_simp; with_reducible rfl); rotate_left; (simp only [Act.put, q5]; rfl)
                refine pu 3 (some 55) bl4 HT_ ?_ rfl rfl (.inl ⟨by rfl, ?_⟩) ?_ ?_ ?_; rotate_left; (intro w'; go_simp; with_reducible rfl); rotate_left; (simp only [Act.put, q5]; rfl)
                refine pu 5 (some 57) bl5 HT_ ?_ rfl rfl (.inl ⟨by rfl, ?_⟩) ?_ ?_ ?_; rotate_left; (intro w'; go_simp; with_reducible rfl); rotate_left; (simp only [Act.put, q5]; rfl)
                refine pu 6 (some 58) bl6 HT_ ?_ rfl rfl (.inl ⟨by rfl, ?_⟩) ?_ ?_ ?_; rotate_left; (intro w'; go_simp; with_reducible rfl); rotate_left; (simp only [Act.put, q5]; rfl)
                refine take_ (i := 4) (N := some 56) (v := ?_) (a' := ?_) bl7 rfl rfl (take_ofW HT_.out HW_.out (by kernel_rfl)) (fun _ _ _ h => h) (Or.inl ⟨by rfl, ?_⟩) hHeld ?_ ?_; rotate_left
                ·rintro w' ⟨s0, s1, s2, s3, s4, s5, s6, s7, s8, s9, s10, s11⟩; go_simp; with_reducible rfl
                rotate_left
                ·simp only [Act.put, q5]; rfl
                refine pu 7 (some 59) bl8 HT_ ?_ rfl rfl (.inl ⟨by rfl, ?_⟩) ?_ ?_ ?_; rotate_left; (intro w'; go_simp; with_reducible rfl); rotate_left; (simp only [Act.put, q5]; rfl)
                refine take_ (i := 8) (N := some 60) (v := ?_) (a' := ?_) bl9 rfl rfl (take_ofW HT_.out HW_.out (by kernel_rfl)) (fun _ _ _ h => h) (Or.inl ⟨by rfl, ?_⟩) hHeld ?_ ?_; rotate_left
                ·rintro w' ⟨s0, s1, s2, s3, s4, s5, s6, s7, s8, s9, s10, s11⟩; go_simp; with_reducible rfl
                rotate_left
                ·simp only [Act.put, q5]; rfl
                refine take_ (i := 9) (N := some 61) (v := ?_) (a' := ?_) bl10 rfl rfl (take_ofW HT_.out HW_.out (by kernel_rfl)) (fun _ _ _ h => h) (Or.inl ⟨by rfl, ?_⟩) hHeld ?_ ?_; rotate_left
                ·rintro w' ⟨s0, s1, s2, s3, s4, s5, s6, s7, s8, s9, s10, s11⟩; go_simp; with_reducible rfl
                rotate_left
                ·simp only [Act.put, q5]; rfl
                refine one_ (i := 10) (N := some 62) bl11 rfl rfl (one_of HT_.out (by kernel_rfl)) (by decide) (fun K hK => ?_); refine goes_ Try.func70 (by kernel_rfl) rfl #[.agg #[.int .i64 ((rd_T68 l0_3 (ji33)).f0), .int .i64 ((rd_T68 l0_3 (ji33)).f1), .int .i64 ((rd_T68 l0_3 (ji33)).f2), .bool ((rd_T68 l0_3 (ji33)).f3)], .agg #[.int .i64 ((rd_T68 l0_3 x22_2).f0), .int .i64 ((rd_T68 l0_3 x22_2).f1), .int .i64 ((rd_T68 l0_3 x22_2).f2), .bool ((rd_T68 l0_3 x22_2).f3)]] (by rfl) rfl rfl (by (try simp only [m3]); first | done | (simp only [hji33]; rfl) | rfl | (simp only [d2]; rfl)) ?_
                with_reducible refine (impl_compareEdges.calls kj12 ((rd_T68 l0_3 (ji33)).f0) ((rd_T68 l0_3 (ji33)).f1) ((rd_T68 l0_3 (ji33)).f2) ((rd_T68 l0_3 (ji33)).f3) ((rd_T68 l0_3 x22_2).f0) ((rd_T68 l0_3 x22_2).f1) ((rd_T68 l0_3 x22_2).f2) ((rd_T68 l0_3 x22_2).f3) t202 _ A36.out).mono ?_
                rintro e w39 ⟨rfl, hb⟩; refine ⟨_, rfl, ?_⟩; replace BK194 := xB BK194 hb; replace BK197 := xB BK197 hb; replace HB := xS HB hb
                (try clear hb)
                (try clear hb2)
                (try clear hk)
                (try clear hi)
                refine hK.out _ _ ⟨b1 BK194 0, b1 BK194 1, b1 BK194 2, b1 BK194 3, b1 BK197 0, b1 BK197 1, b1 BK197 2, b1 BK197 3, ((HB.out.cell (World.block_lt_of_cell? w _ hw201_0)).trans hw201_0), ((HB.out.cell (World.block_lt_of_cell? w _ hw201_1)).trans hw201_1), ((HB.out.cell (World.block_lt_of_cell? w _ hw201_2)).trans hw201_2), ((HB.out.cell (World.block_lt_of_cell? w _ hw201_3)).trans hw201_3)⟩ (fun hHeld => ?_); clear hK K; refine norm_ (a' := ?_) ?_ ?_; rotate_left
                ·show Act.put _ (some 62) _ = _; simp only [Act.put, q5]; rfl
                refine pu 11 (some 63) bl12 HT_ ?_ rfl rfl (.inl ⟨by rfl, ?_⟩) ?_ ?_ ?_; rotate_left; (intro w'; go_simp; with_reducible rfl); rotate_left; (simp only [Act.put, q5]; rfl)
                refine pu 12 (some 64) bl13 HT_ ?_ rfl rfl (.inl ⟨by rfl, ?_⟩) ?_ ?_ ?_; rotate_left; (intro w'; go_simp; with_reducible rfl); rotate_left; (simp only [Act.put, q5]; rfl)
                refine done_ (done_of HT_.out (by kernel_rfl)) ?_
                try go_wp2
                go_ret; exact ⟨by first | rfl | (simp [errW_none, errW_some] <;> rfl) | (simp only [← hji33]; first | rfl | (simp [errW_none, errW_some] <;> rfl)) | (simp [*, errW_none, errW_some] <;> rfl), by repeat (first | (with_reducible first | exact HB.out | apply below_alloc | apply pw_below_drewN | apply below_drew1 | refine below_set ?_ GE194.out | refine below_set ?_ GE197.out) | exact HB.out)⟩
               ·rw [if_neg c37] at H; have c37b0 : decide (0 ≤ t202) = false := decide_eq_false c37; clear c37; have H' := Aside0.mk H; clear H
                try go_wp2
                replace BK194 := Aside0.mk (blk_drew BK194.out); replace BK197 := Aside0.mk (blk_drew BK197.out); replace HB := Aside0.mk (below_drew1 HB.out); have p201 : 0 ≤ ((ji33) : Int) := of_decide_eq_true (by first | (with_reducible assumption) | assumption); have q201 : (ji33) < (l0_3.length : Int) := of_decide_eq_true (by first | (with_reducible assumption) | assumption); obtain ⟨ad201, e201, hx201_0, hx201_1, hx201_2, hx201_3⟩ := at_T68 HR0_3.out (ji33) p201 q201; have hw201_3 := hx201_3; have hw201_2 := hx201_2; have hw201_1 := hx201_1; have hw201_0 := hx201_0; obtain rfl : ad196 = ad201 := (by injection e201); replace hx201_0 := (HB.out.cell (World.block_lt_of_cell? w _ hx201_0)).trans hx201_0; replace hx201_1 := (HB.out.cell (World.block_lt_of_cell? w _ hx201_1)).trans hx201_1; replace hx201_2 := (HB.out.cell (World.block_lt_of_cell? w _ hx201_2)).trans hx201_2; replace hx201_3 := (HB.out.cell (World.block_lt_of_cell? w _ hx201_3)).trans hx201_3; replace p201 := eq_true p201; replace q201 := eq_true q201; refine start_ (n := 13) (S := fun w' => w'.cell? ⟨gb194, 0, none⟩ = some (.int .i64 a0_0) ∧ w'.cell? ⟨gb194, 1, none⟩ = some (.int .i64 a0_1) ∧ w'.cell? ⟨gb194, 2, none⟩ = some (.int .i64 a0_2) ∧ w'.cell? ⟨gb194, 3, none⟩ = some (.slice (some ad196) l0_3.length c0_3) ∧ w'.cell? ⟨gb197, 0, none⟩ = some (.int .i64 ((rd_T68 l0_3 x22_2).f0)) ∧ w'.cell? ⟨gb197, 1, none⟩ = some (.int .i64 ((rd_T68 l0_3 x22_2).f1)) ∧ w'.cell? ⟨gb197, 2, none⟩ = some (.int .i64 ((rd_T68 l0_3 x22_2).f2)) ∧ w'.cell? ⟨gb197, 3, none⟩ = some (.bool ((rd_T68 l0_3 x22_2).f3)) ∧ w'.cell? (ad196.add (((ji33)).toNat * 4)) = some (.int .i64 ((rd_T68 l0_3 (ji33)).f0)) ∧ w'.cell? ⟨(ad196.add (((ji33)).toNat * 4)).block, (ad196.add (((ji33)).toNat * 4)).off + 1, none⟩ = some (.int .i64 ((rd_T68 l0_3 (ji33)).f1)) ∧ w'.cell? ⟨(ad196.add (((ji33)).toNat * 4)).block, (ad196.add (((ji33)).toNat * 4)).off + 2, none⟩ = some (.int .i64 ((rd_T68 l0_3 (ji33)).f2)) ∧ w'.cell? ⟨(ad196.add (((ji33)).toNat * 4)).block, (ad196.add (((ji33)).toNat * 4)).off + 3, none⟩ = some (.bool ((rd_T68 l0_3 (ji33)).f3))) (ds := []) bl0 (by kernel_rfl) rfl rfl ⟨b1 BK194 0, b1 BK194 1, b1 BK194 2, b1 BK194 3, b1 BK197 0, b1 BK197 1, b1 BK197 2, b1 BK197 3, ((HB.out.cell (World.block_lt_of_cell? w _ hw201_0)).trans hw201_0), ((HB.out.cell (World.block_lt_of_cell? w _ hw201_1)).trans hw201_1), ((HB.out.cell (World.block_lt_of_cell? w _ hw201_2)).trans hw201_2), ((HB.out.cell (World.block_lt_of_cell? w _ hw201_3)).trans hw201_3)⟩ (fun hHeld => ?_); refine with_tabW impl_AutoOk.tab8 impl_AutoOk.bits8 (fun HT_ HW_ => ?_); generalize wc.drew = w40 at BK194 BK197 HB hx201_0 hx201_1 hx201_2 hx201_3 hHeld ⊢
                refine pu 0 (some 52) bl1 HT_ ?_ rfl rfl (.inl ⟨by rfl, ?_⟩) ?_ ?_ ?_; rotate_left; (intro w'; go_simp; with_reducible rfl); rotate_left; (simp only [Act.put, q5]; rfl)
                refine pu 1 (some 53) bl2 HT_ ?_ rfl rfl (.inl ⟨by rfl, ?_⟩) ?_ ?_ ?_; rotate_left; (intro w'; go_simp; with_reducible rfl); rotate_left; (simp only [Act.put, q5]; rfl)
                refine pu 2 (some 54) bl3 HT_ ?_ rfl rfl (.inl ⟨by rfl, ?_⟩) ?_ ?_ ?_; rotate_left; (intro w'; go_simp; with_reducible rfl); rotate_left; (simp only [Act.put, q5]; rfl)
                refine pu 3 (some 55) bl4 HT_ ?_ rfl rfl (.inl ⟨by rfl, ?_⟩) ?_ ?_ ?_; rotate_left; (intro w'; go_simp; with_reducible rfl); rotate_left; (simp only [Act.put, q5]; rfl)
                refine pu 5 (some 57) bl5 HT_ ?_ rfl rfl (.inl ⟨by rfl, ?_⟩) ?_ ?_ ?_; rotate_left; (intro w'; go_simp; with_reducible rfl); rotate_left; (simp only [Act.put, q5]; rfl)
                refine pu 6 (some 58) bl6 HT_ ?_ rfl rfl (.inl ⟨by rfl, ?_⟩) ?_ ?_ ?_; rotate_left; (intro w'; go_simp; with_reducible rfl); rotate_left; (simp only [Act.put, q5]; rfl)
                refine take_ (i := 4) (N := some 56) (v := ?_) (a' := ?_) bl7 rfl rfl (take_ofW HT_.out HW_.out (by kernel_rfl)) (fun _ _ _ h => h) (Or.inl ⟨by rfl, ?_⟩) hHeld ?_ ?_; rotate_left
                ·rintro w' ⟨s0, s1, s2, s3, s4, s5, s6, s7, s8, s9, s10, s11⟩; go_simp; with_reducible rfl
                rotate_left
                ·simp only [Act.put, q5]; rfl
                refine pu 7 (some 59) bl8 HT_ ?_ rfl rfl (.inl ⟨by rfl, ?_⟩) ?_ ?_ ?_; rotate_left; (intro w'; go_simp; with_reducible rfl); rotate_left; (simp only [Act.put, q5]; rfl)
                refine take_ (i := 8) (N := some 60) (v := ?_) (a' := ?_) bl9 rfl rfl (take_ofW HT_.out HW_.out (by kernel_rfl)) (fun _ _ _ h => h) (Or.inl ⟨by rfl, ?_⟩) hHeld ?_ ?_; rotate_left
                ·rintro w' ⟨s0, s1, s2, s3, s4, s5, s6, s7, s8, s9, s10, s11⟩; go_simp; with_reducible rfl
                rotate_left
                ·simp only [Act.put, q5]; rfl
                refine take_ (i := 9) (N := some 61) (v := ?_) (a' := ?_) bl10 rfl rfl (take_ofW HT_.out HW_.out (by kernel_rfl)) (fun _ _ _ h => h) (Or.inl ⟨by rfl, ?_⟩) hHeld ?_ ?_; rotate_left
                ·rintro w' ⟨s0, s1, s2, s3, s4, s5, s6, s7, s8, s9, s10, s11⟩; go_simp; with_reducible rfl
                rotate_left
                ·simp only [Act.put, q5]; rfl
                refine one_ (i := 10) (N := some 62) bl11 rfl rfl (one_of HT_.out (by kernel_rfl)) (by decide) (fun K hK => ?_); refine goes_ Try.func70 (by kernel_rfl) rfl #[.agg #[.int .i64 ((rd_T68 l0_3 (ji33)).f0), .int .i64 ((rd_T68 l0_3 (ji33)).f1), .int .i64 ((rd_T68 l0_3 (ji33)).f2), .bool ((rd_T68 l0_3 (ji33)).f3)], .agg #[.int .i64 ((rd_T68 l0_3 x22_2).f0), .int .i64 ((rd_T68 l0_3 x22_2).f1), .int .i64 ((rd_T68 l0_3 x22_2).f2), .bool ((rd_T68 l0_3 x22_2).f3)]] (by rfl) rfl rfl (by (try simp only [m3]); first | done | (simp only [hji33]; rfl) | rfl | (simp only [d2]; rfl)) ?_
                with_reducible refine (impl_compareEdges.calls kj12 ((rd_T68 l0_3 (ji33)).f0) ((rd_T68 l0_3 (ji33)).f1) ((rd_T68 l0_3 (ji33)).f2) ((rd_T68 l0_3 (ji33)).f3) ((rd_T68 l0_3 x22_2).f0) ((rd_T68 l0_3 x22_2).f1) ((rd_T68 l0_3 x22_2).f2) ((rd_T68 l0_3 x22_2).f3) t202 _ A36.out).mono ?_
                rintro e w41 ⟨rfl, hb⟩; refine ⟨_, rfl, ?_⟩; replace BK194 := xB BK194 hb; replace BK197 := xB BK197 hb; replace HB := xS HB hb
                (try clear hb)
                (try clear hb2)
                (try clear hk)
                (try clear hi)
                refine hK.out _ _ ⟨b1 BK194 0, b1 BK194 1, b1 BK194 2, b1 BK194 3, b1 BK197 0, b1 BK197 1, b1 BK197 2, b1 BK197 3, ((HB.out.cell (World.block_lt_of_cell? w _ hw201_0)).trans hw201_0), ((HB.out.cell (World.block_lt_of_cell? w _ hw201_1)).trans hw201_1), ((HB.out.cell (World.block_lt_of_cell? w _ hw201_2)).trans hw201_2), ((HB.out.cell (World.block_lt_of_cell? w _ hw201_3)).trans hw201_3)⟩ (fun hHeld => ?_); clear hK K; refine norm_ (a' := ?_) ?_ ?_; rotate_left
                ·show Act.put _ (some 62) _ = _; simp only [Act.put, q5]; rfl
                refine pu 11 (some 63) bl12 HT_ ?_ rfl rfl (.inl ⟨by rfl, ?_⟩) ?_ ?_ ?_; rotate_left; (intro w'; go_simp; with_reducible rfl); rotate_left; (simp only [Act.put, q5]; rfl)
                refine pu 12 (some 64) bl13 HT_ ?_ rfl rfl (.inl ⟨by rfl, ?_⟩) ?_ ?_ ?_; rotate_left; (intro w'; go_simp; with_reducible rfl); rotate_left; (simp only [Act.put, q5]; rfl)
                refine done_ (done_of HT_.out (by kernel_rfl)) ?_
                try go_wp2
                go_roundg kj12
                case measure => have := HJ1.out; have := HK2.out; have := HJ12.out; omega
                case rel => exact ⟨(wrap64 (x22_2 + 1)), (by first | rfl | (simp; done) | (simp [*]; done)), H', ⟨by have := HJ1.out; have := HK2.out; have := HJ12.out; omega⟩, ⟨zB BK194.out⟩, ⟨zS HB.out⟩⟩
              ·rw [if_neg c35] at H; exact absurd H (by simp)
             ·rw [if_neg c34] at H; exact absurd H (by simp)
            ·rw [if_neg c32] at H; have c32b0 : decide (0 < x22_2) = false := decide_eq_false c32; clear c32; have H' := Aside0.mk H; clear H
             try go_wp2
             replace BK194 := Aside0.mk (blk_drew BK194.out); replace BK197 := Aside0.mk (blk_drew BK197.out); replace HB := Aside0.mk (below_drew1 HB.out); refine start_ (n := 13) (S := fun w' => True) (ds := []) bl0 (by kernel_rfl) rfl rfl trivial (fun hHeld => ?_); refine with_tabW impl_AutoOk.tab8 impl_AutoOk.bits8 (fun HT_ HW_ => ?_); generalize wc.drew = w42 at BK194 BK197 HB hHeld ⊢
             refine pu 0 (some 52) bl1 HT_ ?_ rfl rfl (.inl ⟨by rfl, ?_⟩) ?_ ?_ ?_; rotate_left; (intro w'; go_simp; with_reducible rfl); rotate_left; (simp only [Act.put, q5]; rfl)
             refine pu 1 (some 53) bl2 HT_ ?_ rfl rfl (.inl ⟨by rfl, ?_⟩) ?_ ?_ ?_; rotate_left; (intro w'; go_simp; with_reducible rfl); rotate_left; (simp only [Act.put, q5]; rfl)
             refine pu 2 (some 54) bl3 HT_ ?_ rfl rfl (.inl ⟨by rfl, ?_⟩) ?_ ?_ ?_; rotate_left; (intro w'; go_simp; with_reducible rfl); rotate_left; (simp only [Act.put, q5]; rfl)
             refine pu 3 (some 55) bl4 HT_ undef rfl rfl (.inr ⟨by rfl, rfl⟩) ?_ ?_ ?_; rotate_left; (simp only [Act.put, q5]; rfl)
             refine pu 4 (some 56) bl14 HT_ undef rfl rfl (.inr ⟨by rfl, rfl⟩) ?_ ?_ ?_; rotate_left; (simp only [Act.put, q5]; rfl)
             refine pu 5 (some 57) bl15 HT_ undef rfl rfl (.inr ⟨by rfl, rfl⟩) ?_ ?_ ?_; rotate_left; (simp only [Act.put, q5]; rfl)
             refine pu 6 (some 58) bl7 HT_ undef rfl rfl (.inr ⟨by rfl, rfl⟩) ?_ ?_ ?_; rotate_left; (simp only [Act.put, q5]; rfl)
             refine pu 7 (some 59) bl8 HT_ undef rfl rfl (.inr ⟨by rfl, rfl⟩) ?_ ?_ ?_; rotate_left; (simp only [Act.put, q5]; rfl)
             refine pu 8 (some 60) bl9 HT_ undef rfl rfl (.inr ⟨by rfl, rfl⟩) ?_ ?_ ?_; rotate_left; (simp only [Act.put, q5]; rfl)
             refine pu 9 (some 61) bl10 HT_ undef rfl rfl (.inr ⟨by rfl, rfl⟩) ?_ ?_ ?_; rotate_left; (simp only [Act.put, q5]; rfl)
             refine pu 10 (some 62) bl11 HT_ undef rfl rfl (.inr ⟨by rfl, rfl⟩) ?_ ?_ ?_; rotate_left; (simp only [Act.put, q5]; rfl)
             refine pu 11 (some 63) bl12 HT_ undef rfl rfl (.inr ⟨by rfl, rfl⟩) ?_ ?_ ?_; rotate_left; (simp only [Act.put, q5]; rfl)
             refine pu 12 (some 64) bl13 HT_ ?_ rfl rfl (.inl ⟨by rfl, ?_⟩) ?_ ?_ ?_; rotate_left; (intro w'; go_simp; with_reducible rfl); rotate_left; (simp only [Act.put, q5]; rfl)
             refine done_ (done_of HT_.out (by kernel_rfl)) ?_
             try go_wp2
             go_roundg kj12
             case measure => have := HJ1.out; have := HK2.out; have := HJ12.out; omega
             case rel => exact ⟨(wrap64 (x22_2 + 1)), (by first | rfl | (simp; done) | (simp [*]; done)), H', ⟨by have := HJ1.out; have := HK2.out; have := HJ12.out; omega⟩, ⟨zB BK194.out⟩, ⟨zS HB.out⟩⟩
        ·rw [if_neg c12] at H; exact absurd H (by simp)
       ·rw [if_neg c11] at H; exact absurd H (by simp)
      ·rw [if_neg c10] at H; have c10b0 : decide (x22_2 < (l0_3.length : Int)) = false := decide_eq_false c10; clear c10; obtain rfl := Option.some.inj H
       go_wp2
       go_ret; exact ⟨by first | rfl | (simp [errW_none, errW_some] <;> rfl) | (simp [*, errW_none, errW_some] <;> rfl), by repeat (first | (with_reducible first | exact HB.out | apply below_alloc | apply pw_below_drewN | apply below_drew1 | refine below_set ?_ GE194.out) | exact HB.out)⟩

/-! ### impl_Edge: function 82 -/
def impl_Edge.f (l0 : List S68) : Option (List S68) := if l0.length < 4398046511104 then some l0 else none
set_option maxHeartbeats 8000000 in
set_option maxRecDepth 100000 in
theorem impl_Edge.calls (A0 : Option Addr) (c0 : Nat) (l0 : List S68) (r : List S68) (w : World) (hr0 : Kd.C k68 w A0 l0.length l0) (hc0 : l0.length ≤ c0) (h : impl_Edge.f l0 = some r) :
    Calls Try.prog 82 #[.slice A0 l0.length c0] w fun e w' => ∃ v0_ : Value, e = .returned (v0_) ∧ Kd.R k68 68 w' w.heap.size (fun _ => True) v0_ r ∧ Below w.heap.size w w' := by
  unfold impl_Edge.f at h
  by_cases hl : l0.length < 4398046511104
  · rw [if_pos hl] at h
    obtain rfl := Option.some.inj h
    have hinf : (Try.prog.info? 68).map (fun i => (i.zero, i.size, i.bytes)) = some (some (.agg #[(.int .i64 0), (.int .i64 0), (.int .i64 0), (.bool false)]), 4, 32) := by kernel_rfl
    have HINF := Aside0.mk hinf
    have HL := Aside0.mk hl
    have HR0 := Aside0.mk hr0
    have HC0 := Aside0.mk hc0
    clear hl h hr0 hc0 hinf
    have heq := fun (w : World) (a : Option Addr) (n c : Nat) => Lib.run_eql_slice_nil (P := Try.prog) w 22 68 a n c 0 0 Try.underlying22
    rcases A0 with _ | ad
    · have hl0 : l0 = [] := by
        rcases Nat.eq_zero_or_pos l0.length with h0 | h0
        · exact List.eq_nil_of_length_eq_zero h0
        · obtain ⟨ad, he, _⟩ := HR0.out.2.2 h0
          cases he
      subst hl0
      go_enter Try.func82, Try.ntmps82
      go_wp2
      go_ret
      exact ⟨_, rfl, Kd.R_nil _ _ _ _ _, Below.refl _ _⟩
    · go_enter Try.func82, Try.ntmps82
      go_wp2_with (first
        | ((with_reducible refine gate_dst (N := 5) rfl ?_); refine Kd.R_lit k68 _ 68 ?hg (N := 5) ?hd (xs := ([] : List S68)) (inner := []) (ok := fun _ => True) (okp := fun _ => True) ?hr ?hp (fun _ hk => hk) trivial (Below.refl _ _) (Nat.le_refl _) (by simp) ?_; (case hd => rfl); (case hg => rfl); (case hr => first | (go_simp; done) | (go_simp; rfl)); (case hp => exact (Reps.none _ _)); intro v1 w1 ho1 hb1 _ _; have HO1 := Aside0.mk ho1; have HB1 := Aside0.mk hb1; clear ho1 hb1)
        | (at_builtin; refine Kd.R_append_rows k68 (w0 := w) w.heap.size rfl (.tmp 5) (.tmp 6) 22 68 (.agg #[(.int .i64 0), (.int .i64 0), (.int .i64 0), (.bool false)]) 32 rfl Try.underlying22 HINF.out rfl (by decide) (by omega) v1 [] l0 _ _ _ (fun _ => True) (fun _ => False) rfl rfl ?aO ?aR (fun _ _ h => h) (fun _ h => h.elim) ?aF ?aB ?aS ?aL ?_; (case aR => exact Kd.C_below HR0.out HB1.out); (case aB => exact HB1.out); (case aF => exact (fun _ _ => trivial)); (case aO => exact HO1.out); (case aS => exact HB1.out.size); (case aL => have := HL.out; simp; omega); intro v2 w2 ho hb hg hat; have HO2 := Aside0.mk ho; have HB2 := Aside0.mk hb; clear ho hb hg hat))
      go_ret
      exact ⟨_, rfl, HO2.out, HB2.out⟩
  · rw [if_neg hl] at h
    cases h


/-! ### impl_rightAuto: function 83 -/
def impl_rightAuto.f (k : Nat) (a0_0 : Int) (a0_1 : Int) (a0_2 : Int) (l0_3 : List (S68)) : Option (Int × Int × Int × (List (S68)) × Bool) := (impl_AutoOk.f k a0_0 a0_1 a0_2 l0_3).bind fun t205 => (if t205 = true then (some (a0_0, a0_1, a0_2, l0_3, true)) else (some (0, 0, 0, ([] : List (S68)), false)))
theorem impl_rightAuto.mono : ∀ a0 a1 a2 a3 k, LeO (impl_rightAuto.f k a0 a1 a2 a3) (impl_rightAuto.f (k + 1) a0 a1 a2 a3) := by
 intro a0 a1 a2 a3 k
 unfold impl_rightAuto.f
 repeat' first
   | (with_reducible exact impl_AutoOk.mono _ _ _ _ _)
   | (with_reducible exact LeO.refl _)
   | (with_reducible exact LeO.none _)
   | (with_reducible refine LeO.ite ?_ ?_)
   | (with_reducible refine LeO.bind ?_ (fun _ => ?_))
   | exact impl_AutoOk.mono _ _ _ _ _
   | exact LeO.none _
   | refine LeO.ite ?_ ?_
   | refine LeO.bind ?_ (fun _ => ?_)
open Go.Proofs.Ytlallflpicgcmaa.Short2 in
set_option maxHeartbeats 8000000 in
set_option maxRecDepth 100000 in
theorem impl_rightAuto.calls (k : Nat) (a0_0 : Int) (a0_1 : Int) (a0_2 : Int) (P0_3_ : Nat → Prop) (u9000_ : Value) (l0_3 : List (S68)) (r1 : Int) (r2 : Int) (r3 : Int) (r4 : List (S68)) (r5 : Bool) (w0 w : World) (hB : Below w0.heap.size w0 w) (ho0_3 : Kd.R k68 68 w w0.heap.size P0_3_ u9000_ l0_3) (h : impl_rightAuto.f k a0_0 a0_1 a0_2 l0_3 = some (r1, r2, r3, r4, r5)) :
  Calls Try.prog 83 #[.agg #[.int .i64 a0_0, .int .i64 a0_1, .int .i64 a0_2, u9000_]] w fun e w' => ∃ v3_ : Value, e = .returned (.tuple #[.agg #[.int .i64 r1, .int .i64 r2, .int .i64 r3, v3_], .bool r5]) ∧ Kd.R k68 68 w' w0.heap.size (fun k_ => (P0_3_ k_ ∨ w.heap.size ≤ k_)) v3_ r4 ∧ Below w0.heap.size w0 w' ∧ Kept w w' (fun k_ => P0_3_ k_) := by
 have hu24 := Try.underlying24; have HO0_3 := Aside0.mk (show Kd.R k68 68 w w0.heap.size (fun k_ => (P0_3_ k_ ∨ w.heap.size ≤ k_)) u9000_ l0_3 from Kd.R_mono ho0_3 (fun k_ hk => (.inl hk))); have HK := Aside0.mk (Kept.refl w (fun k_ => P0_3_ k_)); have HW0 := Aside0.mk hB.size; have HB := Aside0.mk hB; clear hB; have H : ((impl_AutoOk.f k a0_0 a0_1 a0_2 l0_3).bind fun t205 => (if t205 = true then (some (a0_0, a0_1, a0_2, l0_3, true)) else (some (0, 0, 0, ([] : List (S68)), false)))) = some (r1, r2, r3, r4, r5) := h; clear h; replace H := Option.bind_eq_some_iff.mp H; obtain ⟨t205, A20, H⟩ := H; replace H : (if t205 = true then (some (a0_0, a0_1, a0_2, l0_3, true)) else (some (0, 0, 0, ([] : List (S68)), false))) = some (r1, r2, r3, r4, r5) := H; have A2 := Aside0.mk A20; clear A20
 by_cases c3 : t205 = true
 ·subst c3
  have H1 : (some (a0_0, a0_1, a0_2, l0_3, true)) = some (r1, r2, r3, r4, r5) := by rw [if_pos rfl] at H; exact H
  clear H; have H := H1; clear H1; simp only [Option.some.injEq, Prod.mk.injEq] at H; obtain ⟨rfl, rfl, rfl, rfl, rfl⟩ := H; obtain ⟨Ao4, co4, eo4⟩ := Kd.R_slice HO0_3.out; subst eo4
  go_enter Try.func83, Try.ntmps83
  go_wp2_with (first | ((with_reducible refine gate_dst (N := 1) rfl ?_); refine box_event ?hg (N := 1) ?hd (cs := #[.int .i64 a0_0, .int .i64 a0_1, .int .i64 a0_2, .slice Ao4 l0_3.length co4]) (t := 24) ?hr ?_; (case hd => rfl); (case hg => rfl); (case hr => first | (go_simp; done) | (go_simp; rfl)); intro gb203 hg w5 hbox hb; have n0_ := xR HO0_3 hb; have n1_ := Aside0.mk (Kept.below (S := (fun k_ => P0_3_ k_)) (by repeat (first | (with_reducible first | exact HK.out | apply Kept.alloc | apply Kept.drewN | apply Kept.drew) | exact HK.out)) hb); have n2_ := xS HB hb; have n3_ := Aside0.mk (hbox); have n4_ := Aside0.mk ((by rw [hg]; exact (by first | exact HK.out.1 | exact (show Kept w _ (fun k_ => P0_3_ k_) from by repeat (first | (with_reducible first | exact HK.out | apply Kept.alloc | apply Kept.drewN | apply Kept.drew) | exact HK.out)).1) : w.heap.size ≤ gb203)); have n5_ := Aside0.mk ((by rw [hg]; exact (below_size (zS HB.out)) : w0.heap.size ≤ gb203)); clear HO0_3; clear HK; clear HB; have HO0_3 := n0_; have HK := n1_; have HB := n2_; have BK203 := n3_; have GW203 := n4_; have GE203 := n5_; clear n0_ n1_ n2_ n3_ n4_ n5_; clear hb hbox hg) | ((with_reducible refine gate_dst (N := 2) rfl ?_); refine box_event ?hg (N := 2) ?hd (cs := #[.int .i64 0, .int .i64 0, .int .i64 0, .slice none 0 0]) (t := 24) ?hr ?_; (case hd => rfl); (case hg => rfl); (case hr => first | (go_simp; done) | (go_simp; rfl)); intro gb204 hg w6 hbox hb; have n0_ := xR HO0_3 hb; have n1_ := xB BK203 hb; have n2_ := Aside0.mk (Kept.below (S := (fun k_ => P0_3_ k_)) (by repeat (first | (with_reducible first | exact HK.out | apply Kept.alloc | apply Kept.drewN | apply Kept.drew | refine Kept.setCell ?_ (.inr GW203.out) _) | exact HK.out)) hb); have n3_ := xS HB hb; have n4_ := Aside0.mk (hbox); have n5_ := Aside0.mk ((by rw [hg]; exact (by first | exact HK.out.1 | exact (show Kept w _ (fun k_ => P0_3_ k_) from by repeat (first | (with_reducible first | exact HK.out | apply Kept.alloc | apply Kept.drewN | apply Kept.drew | refine Kept.setCell ?_ (.inr GW203.out) _) | exact HK.out)).1) : w.heap.size ≤ gb204)); have n6_ := Aside0.mk ((by rw [hg]; exact (below_size (zS HB.out)) : w0.heap.size ≤ gb204)); have n7_ := xN BK203 hg; have n8_ := xM BK203 hg; clear HO0_3; clear BK203; clear HK; clear HB; have HO0_3 := n0_; have BK203 := n1_; have HK := n2_; have HB := n3_; have BK204 := n4_; have GW204 := n5_; have GE204 := n6_; have NB203_204 := n7_; have NB204_203 := n8_; clear n0_ n1_ n2_ n3_ n4_ n5_ n6_ n7_ n8_; clear hb hbox hg; have hnb7 := NB203_204.out; have hnc7 := NB204_203.out; have hcz8_0 : w6.cell? ⟨gb203, 0, none⟩ = some (.int .i64 a0_0) := b1 BK203 0; have hcz8_1 : w6.cell? ⟨gb203, 1, none⟩ = some (.int .i64 a0_1) := b1 BK203 1; have hcz8_2 : w6.cell? ⟨gb203, 2, none⟩ = some (.int .i64 a0_2) := b1 BK203 2; have hcz8_3 : w6.cell? ⟨gb203, 3, none⟩ = some (.slice Ao4 l0_3.length co4) := b1 BK203 3; have hfz8_0 := blk_frozen BK203.out 0; have hfz8_1 := blk_frozen BK203.out 1; have hfz8_2 := blk_frozen BK203.out 2; have hfz8_3 := blk_frozen BK203.out 3) | ((with_reducible refine gate_callee (f := 22) rfl ?_); refine goesL_ (some 5) rfl rfl Try.func22 (by kernel_rfl) rfl #[.agg #[.int .i64 a0_0, .int .i64 a0_1, .int .i64 a0_2, .slice Ao4 l0_3.length co4]] rfl (by (try simp only [m3]); first | done | rfl | (simp only [d2]; rfl)) ?_; (with_reducible refine (impl_AutoOk.calls k a0_0 a0_1 a0_2 _ _ l0_3 true _ ?side1 ?side2 A2.out).mono ?_); (case side1 => exact zC (Kd.R_reads' HO0_3.out).2.2); (case side2 => exact (Kd.R_reads' HO0_3.out).2.1); rintro e w9 ⟨rfl, hb⟩; refine ⟨_, rfl, ?_⟩; have n0_ := xR HO0_3 hb; have n1_ := xB BK203 hb; have n2_ := xB BK204 hb; have n3_ := Aside0.mk (Kept.below (S := (fun k_ => P0_3_ k_)) (by repeat (first | (with_reducible first | exact HK.out | apply Kept.alloc | apply Kept.drewN | apply Kept.drew | refine Kept.setCell ?_ (.inr GW203.out) _ | refine Kept.setCell ?_ (.inr GW204.out) _) | exact HK.out)) hb); have n4_ := xS HB hb; clear HO0_3; clear BK203; clear BK204; clear HK; clear HB; have HO0_3 := n0_; have BK203 := n1_; have BK204 := n2_; have HK := n3_; have HB := n4_; clear n0_ n1_ n2_ n3_ n4_; (try clear hb); (try clear hb2); (try clear hk); (try clear hi); have hcz10_0 : w9.cell? ⟨gb203, 0, none⟩ = some (.int .i64 a0_0) := b1 BK203 0; have hcz10_1 : w9.cell? ⟨gb203, 1, none⟩ = some (.int .i64 a0_1) := b1 BK203 1; have hcz10_2 : w9.cell? ⟨gb203, 2, none⟩ = some (.int .i64 a0_2) := b1 BK203 2; have hcz10_3 : w9.cell? ⟨gb203, 3, none⟩ = some (.slice Ao4 l0_3.length co4) := b1 BK203 3; have hfz10_0 := blk_frozen BK203.out 0; have hfz10_1 := blk_frozen BK203.out 1; have hfz10_2 := blk_frozen BK203.out 2; have hfz10_3 := blk_frozen BK203.out 3; have hcz11_0 : w9.cell? ⟨gb204, 0, none⟩ = some (.int .i64 0) := b1 BK204 0; have hcz11_1 : w9.cell? ⟨gb204, 1, none⟩ = some (.int .i64 0) := b1 BK204 1; have hcz11_2 : w9.cell? ⟨gb204, 2, none⟩ = some (.int .i64 0) := b1 BK204 2; have hcz11_3 : w9.cell? ⟨gb204, 3, none⟩ = some (.slice none 0 0) := b1 BK204 3; have hfz11_0 := blk_frozen BK204.out 0; have hfz11_1 := blk_frozen BK204.out 1; have hfz11_2 := blk_frozen BK204.out 2; have hfz11_3 := blk_frozen BK204.out 3))
  refine bodyPost_ret (results_ct rfl _ _ gb204 24 #[.int .i64 a0_0, .int .i64 a0_1, .int .i64 a0_2, .slice Ao4 l0_3.length co4] (0, 0) _ rfl (xP4 BK204.out) Try.underlying24 rfl (by kernel_rfl)) rfl ?_; exact ⟨_, by first | rfl | (simp [errW_none, errW_some] <;> rfl) | (simp [*, errW_none, errW_some] <;> rfl), by (with_reducible repeat (first | apply Kd.R_alloc | apply Kd.R_drewN | apply Kd.R_drew)); exact Kd.R_mono (Kd.R_far (p := ⟨gb204, 3, none⟩) (Kd.R_far (p := ⟨gb204, 2, none⟩) (Kd.R_far (p := ⟨gb204, 1, none⟩) (Kd.R_far (p := ⟨gb204, 0, none⟩) (Kd.R_types HO0_3.out BK204.out (by decide)) (fun _ hk => hk.2) (.int .i64 a0_0)) (fun _ hk => hk.2) (.int .i64 a0_1)) (fun _ hk => hk.2) (.int .i64 a0_2)) (fun _ hk => hk.2) (.slice Ao4 l0_3.length co4)) (fun _ hk => hk.1), by repeat (first | (with_reducible first | exact HB.out | apply below_alloc | apply pw_below_drewN | apply below_drew1 | refine below_set ?_ GE203.out | refine below_set ?_ GE204.out) | exact HB.out), by repeat (first | (with_reducible first | exact HK.out | apply Kept.alloc | apply Kept.drewN | apply Kept.drew | refine Kept.setCell ?_ (.inr GW203.out) _ | refine Kept.setCell ?_ (.inr GW204.out) _) | exact HK.out)⟩
 ·replace c3 := Bool.eq_false_iff.mpr c3; subst c3
  have H1 : (some (0, 0, 0, ([] : List (S68)), false)) = some (r1, r2, r3, r4, r5) := by rw [if_neg (show ¬ (false = true) by decide)] at H; exact H
  clear H; have H := H1; clear H1; simp only [Option.some.injEq, Prod.mk.injEq] at H; obtain ⟨rfl, rfl, rfl, rfl, rfl⟩ := H; obtain ⟨Ao12, co12, eo12⟩ := Kd.R_slice HO0_3.out; subst eo12
  go_enter Try.func83, Try.ntmps83
  go_wp2_with (first | ((with_reducible refine gate_dst (N := 1) rfl ?_); refine box_event ?hg (N := 1) ?hd (cs := #[.int .i64 a0_0, .int .i64 a0_1, .int .i64 a0_2, .slice Ao12 l0_3.length co12]) (t := 24) ?hr ?_; (case hd => rfl); (case hg => rfl); (case hr => first | (go_simp; done) | (go_simp; rfl)); intro gb203 hg w13 hbox hb; have n0_ := xR HO0_3 hb; have n1_ := Aside0.mk (Kept.below (S := (fun k_ => P0_3_ k_)) (by repeat (first | (with_reducible first | exact HK.out | apply Kept.alloc | apply Kept.drewN | apply Kept.drew) | exact HK.out)) hb); have n2_ := xS HB hb; have n3_ := Aside0.mk (hbox); have n4_ := Aside0.mk ((by rw [hg]; exact (by first | exact HK.out.1 | exact (show Kept w _ (fun k_ => P0_3_ k_) from by repeat (first | (with_reducible first | exact HK.out | apply Kept.alloc | apply Kept.drewN | apply Kept.drew) | exact HK.out)).1) : w.heap.size ≤ gb203)); have n5_ := Aside0.mk ((by rw [hg]; exact (below_size (zS HB.out)) : w0.heap.size ≤ gb203)); clear HO0_3; clear HK; clear HB; have HO0_3 := n0_; have HK := n1_; have HB := n2_; have BK203 := n3_; have GW203 := n4_; have GE203 := n5_; clear n0_ n1_ n2_ n3_ n4_ n5_; clear hb hbox hg) | ((with_reducible refine gate_dst (N := 2) rfl ?_); refine box_event ?hg (N := 2) ?hd (cs := #[.int .i64 0, .int .i64 0, .int .i64 0, .slice none 0 0]) (t := 24) ?hr ?_; (case hd => rfl); (case hg => rfl); (case hr => first | (go_simp; done) | (go_simp; rfl)); intro gb204 hg w14 hbox hb; have n0_ := xR HO0_3 hb; have n1_ := xB BK203 hb; have n2_ := Aside0.mk (Kept.below (S := (fun k_ => P0_3_ k_)) (by repeat (first | (with_reducible first | exact HK.out | apply Kept.alloc | apply Kept.drewN | apply Kept.drew | refine Kept.setCell ?_ (.inr GW203.out) _) | exact HK.out)) hb); have n3_ := xS HB hb; have n4_ := Aside0.mk (hbox); have n5_ := Aside0.mk ((by rw [hg]; exact (by first | exact HK.out.1 | exact (show Kept w _ (fun k_ => P0_3_ k_) from by repeat (first | (with_reducible first | exact HK.out | apply Kept.alloc | apply Kept.drewN | apply Kept.drew | refine Kept.setCell ?_ (.inr GW203.out) _) | exact HK.out)).1) : w.heap.size ≤ gb204)); have n6_ := Aside0.mk ((by rw [hg]; exact (below_size (zS HB.out)) : w0.heap.size ≤ gb204)); have n7_ := xN BK203 hg; have n8_ := xM BK203 hg; clear HO0_3; clear BK203; clear HK; clear HB; have HO0_3 := n0_; have BK203 := n1_; have HK := n2_; have HB := n3_; have BK204 := n4_; have GW204 := n5_; have GE204 := n6_; have NB203_204 := n7_; have NB204_203 := n8_; clear n0_ n1_ n2_ n3_ n4_ n5_ n6_ n7_ n8_; clear hb hbox hg; have hnb15 := NB203_204.out; have hnc15 := NB204_203.out; have hcz16_0 : w14.cell? ⟨gb203, 0, none⟩ = some (.int .i64 a0_0) := b1 BK203 0; have hcz16_1 : w14.cell? ⟨gb203, 1, none⟩ = some (.int .i64 a0_1) := b1 BK203 1; have hcz16_2 : w14.cell? ⟨gb203, 2, none⟩ = some (.int .i64 a0_2) := b1 BK203 2; have hcz16_3 : w14.cell? ⟨gb203, 3, none⟩ = some (.slice Ao12 l0_3.length co12) := b1 BK203 3; have hfz16_0 := blk_frozen BK203.out 0; have hfz16_1 := blk_frozen BK203.out 1; have hfz16_2 := blk_frozen BK203.out 2; have hfz16_3 := blk_frozen BK203.out 3) | ((with_reducible refine gate_callee (f := 22) rfl ?_); refine goesL_ (some 5) rfl rfl Try.func22 (by kernel_rfl) rfl #[.agg #[.int .i64 a0_0, .int .i64 a0_1, .int .i64 a0_2, .slice Ao12 l0_3.length co12]] rfl (by (try simp only [m3]); first | done | rfl | (simp only [d2]; rfl)) ?_; (with_reducible refine (impl_AutoOk.calls k a0_0 a0_1 a0_2 _ _ l0_3 false _ ?side1 ?side2 A2.out).mono ?_); (case side1 => exact zC (Kd.R_reads' HO0_3.out).2.2); (case side2 => exact (Kd.R_reads' HO0_3.out).2.1); rintro e w17 ⟨rfl, hb⟩; refine ⟨_, rfl, ?_⟩; have n0_ := xR HO0_3 hb; have n1_ := xB BK203 hb; have n2_ := xB BK204 hb; have n3_ := Aside0.mk (Kept.below (S := (fun k_ => P0_3_ k_)) (by repeat (first | (with_reducible first | exact HK.out | apply Kept.alloc | apply Kept.drewN | apply Kept.drew | refine Kept.setCell ?_ (.inr GW203.out) _ | refine Kept.setCell ?_ (.inr GW204.out) _) | exact HK.out)) hb); have n4_ := xS HB hb; clear HO0_3; clear BK203; clear BK204; clear HK; clear HB; have HO0_3 := n0_; have BK203 := n1_; have BK204 := n2_; have HK := n3_; have HB := n4_; clear n0_ n1_ n2_ n3_ n4_; (try clear hb); (try clear hb2); (try clear hk); (try clear hi); have hcz18_0 : w17.cell? ⟨gb204, 0, none⟩ = some (.int .i64 0) := b1 BK204 0; have hcz18_1 : w17.cell? ⟨gb204, 1, none⟩ = some (.int .i64 0) := b1 BK204 1; have hcz18_2 : w17.cell? ⟨gb204, 2, none⟩ = some (.int .i64 0) := b1 BK204 2; have hcz18_3 : w17.cell? ⟨gb204, 3, none⟩ = some (.slice none 0 0) := b1 BK204 3; have hfz18_0 := blk_frozen BK204.out 0; have hfz18_1 := blk_frozen BK204.out 1; have hfz18_2 := blk_frozen BK204.out 2; have hfz18_3 := blk_frozen BK204.out 3))
  refine bodyPost_ret (results_ct rfl _ _ gb204 24 #[.int .i64 0, .int .i64 0, .int .i64 0, .slice none 0 0] (0, 0) _ rfl (xP4 BK204.out) Try.underlying24 rfl (by kernel_rfl)) rfl ?_; exact ⟨_, by first | rfl | (simp [errW_none, errW_some] <;> rfl) | (simp [*, errW_none, errW_some] <;> rfl), by first | exact Kd.R_nil _ _ _ _ _ | exact Kd.N_nil _ _ _ _ _ | exact Kd.V_nil _ _ _ _ _ | exact Kd.Q_nil _ _ _ _ _ | exact Kd.S_nil _ _ _ _ _, by repeat (first | (with_reducible first | exact HB.out | apply below_alloc | apply pw_below_drewN | apply below_drew1 | refine below_set ?_ GE203.out | refine below_set ?_ GE204.out) | exact HB.out), by repeat (first | (with_reducible first | exact HK.out | apply Kept.alloc | apply Kept.drewN | apply Kept.drew | refine Kept.setCell ?_ (.inr GW203.out) _ | refine Kept.setCell ?_ (.inr GW204.out) _) | exact HK.out)⟩

end Go.Proofs.Ytlallflpicgcmaa.MFnExactAutoUnion
