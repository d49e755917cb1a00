-- Written by a program of this session, out of Lean's print of the translation. Not trusted: Lean checks it.
import Derived.Test.YtbdcchbhelehcaaMFnLetters3x0
import Derived.Test.YtbdcchbhelehcaaMFnLetters3x3
namespace Go.Proofs.Ytbdcchbhelehcaa.MFnLetters3
open Go.RowKit Go.Proofs.YtbdcchbhelehcaaW.PrintWords Go.Proofs.YtbdcchbhelehcaaW.PrintLast Go.Proofs.YtbdcchbhelehcaaW.PrintMore Go.Proofs.Ytbdcchbhelehcaa.Short6
attribute [local go_sem] max2_int min2_int max_two min_two max_three min_three max_four min_four   -- for this text's walks alone
set_option linter.unusedVariables false
set_option linter.unusedSimpArgs false


/-! ### impl_period: function 25 -/
def impl_period.l0 : Nat → List Int → Int → Option (Int)
 | 0, _, _ => none
 | k + 1, x0, x3 => if x3 < (x0.length : Int) then (if x3 = 0 then (none) else (if ((x0.length : Int) % x3) = 0 then (if 0 ≤ x3 then (if x3 ≤ (x0.length : Int) then (if 0 ≤ (wrap64 ((x0.length : Int) - x3)) then (if (wrap64 ((x0.length : Int) - x3)) ≤ (x0.length : Int) then ((slices_Equal_int_int.f k (x0.drop (x3 : Int).toNat) (x0.take ((wrap64 ((x0.length : Int) - x3)) : Int).toNat)).bind fun t321 => (if t321 = true then (some x3) else (impl_period.l0 k x0 (wrap64 (x3 + 1))))) else (none)) else (none)) else (none)) else (none)) else (impl_period.l0 k x0 (wrap64 (x3 + 1))))) else (some (x0.length : Int))
def impl_period.f (k : Nat) (l0 : List Int) : Option (Int) := impl_period.l0 k l0 1
theorem impl_period.mono_l : ∀ k, (∀ y0 y1, LeO (impl_period.l0 k y0 y1) (impl_period.l0 (k + 1) y0 y1))
 | 0 => fun _ _ r h => by simp [impl_period.l0] at h
 | k + 1 => by
  have ih0 := impl_period.mono_l k
  ·intro y0 y1
   unfold impl_period.l0
   repeat' first
   | (with_reducible exact ih0 _ _)
   | (with_reducible exact slices_Equal_int_int.mono _ _ _)
   | (with_reducible exact LeO.refl _)
   | (with_reducible exact LeO.none _)
   | (with_reducible refine LeO.ite ?_ ?_)
   | (with_reducible refine LeO.bind ?_ (fun _ => ?_))
   | exact ih0 _ _
   | exact slices_Equal_int_int.mono _ _ _
   | exact LeO.none _
   | refine LeO.ite ?_ ?_
   | refine LeO.bind ?_ (fun _ => ?_)
theorem impl_period.mono : ∀ a0 k, LeO (impl_period.f k a0) (impl_period.f (k + 1) a0) := by
 intro a0 k
 have ih0 := impl_period.mono_l k
 unfold impl_period.f
 repeat' first
   | (with_reducible exact ih0 _ _)
   | (with_reducible exact slices_Equal_int_int.mono _ _ _)
   | (with_reducible exact LeO.refl _)
   | (with_reducible exact LeO.none _)
   | (with_reducible refine LeO.ite ?_ ?_)
   | (with_reducible refine LeO.bind ?_ (fun _ => ?_))
   | exact ih0 _ _
   | exact slices_Equal_int_int.mono _ _ _
   | exact LeO.none _
   | refine LeO.ite ?_ ?_
   | refine LeO.bind ?_ (fun _ => ?_)
open Go.Proofs.Ytbdcchbhelehcaa.Short2 in
set_option maxHeartbeats 8000000 in
set_option maxRecDepth 100000 in
theorem impl_period.calls (k : Nat) (A0 : Option Addr) (c0 : Nat) (l0 : List Int) (r : Int) (w : World) (hr0 : Kd.C (Kd.int .i64) w A0 l0.length l0) (hc0 : l0.length ≤ c0) (h : impl_period.f k l0 = some r) :
  Calls Try.prog 25 #[.slice A0 l0.length c0] w fun e w' => e = .returned (.int .i64 r) ∧ Drawn0 w w' := by
 have HR0 := Aside0.mk hr0; have HC0 := Aside0.mk hc0; clear hr0 hc0; have H : (impl_period.l0 k l0 1) = some r := h; clear h; have H' := Aside0.mk H; clear H
 go_enter Try.func25, Try.ntmps25
 go_wp2
 repeat (go_quiet (fail); try go_wp2)
 go_loopg [3] k (fun kq v3 w' => ∃ (x3_1 : Int), v3 = .int .i64 x3_1 ∧ Aside0 (impl_period.l0 kq l0 x3_1 = some r) ∧ Aside0 (kq ≤ k) ∧ Drawn0 w w')
 case atStart => exact ⟨(1), vv, H', ⟨Nat.le_refl _⟩, by repeat (first | exact Drawn0.refl _ | apply Drawn0.step)⟩
 case round =>
  clear H'; obtain ⟨x3_1, rfl, HA, HK1, ⟨m1, rfl⟩⟩ := hrel
  cases gk with
  | zero => exact absurd HA.out (by simp [impl_period.l0])
  | succ k1 =>
   have H := HA.out; clear HA; simp only [impl_period.l0] at H
   by_cases c2 : x3_1 < (l0.length : Int)
   ·rw [if_pos c2] at H; have ai : decide (x3_1 < (l0.length : Int)) = true := decide_eq_true c2; clear c2
    by_cases c3 : x3_1 = 0
    ·rw [if_pos c3] at H; exact absurd H (by simp)
    ·rw [if_neg c3] at H; have aj : (x3_1 == 0) = false := beq_eq_false_iff_ne.mpr c3; have ak : (x3_1 != 0) = true := bne_iff_ne.mpr c3
     by_cases c4 : ((l0.length : Int) % x3_1) = 0
     ·rw [if_pos c4] at H; have ac : (((l0.length : Int) % x3_1) == 0) = true := beq_iff_eq.mpr c4
      have c4b0t : ((Int.tmod (l0.length : Int) x3_1) == 0) = true := by rw [Int.tmod_eq_emod_of_nonneg (by first | exact Int.natCast_nonneg _ | omega)]; exact ac
      have ad : (((l0.length : Int) % x3_1) != 0) = false := bne_eq_false_iff_eq.mpr c4
      have c4b1t : ((Int.tmod (l0.length : Int) x3_1) != 0) = false := by rw [Int.tmod_eq_emod_of_nonneg (by first | exact Int.natCast_nonneg _ | omega)]; exact ad
      clear c4
      by_cases c5 : 0 ≤ x3_1
      ·rw [if_pos c5] at H; have al := eq_true c5; have am : decide (0 ≤ x3_1) = true := decide_eq_true c5; clear c5
       by_cases c6 : x3_1 ≤ (l0.length : Int)
       ·rw [if_pos c6] at H; have an := eq_true c6; have ao : decide (x3_1 ≤ (l0.length : Int)) = true := decide_eq_true c6; clear c6; obtain ⟨ji7, hji7⟩ : ∃ j_ : Int, (wrap64 ((l0.length : Int) - x3_1)) = j_ := ⟨_, rfl⟩
        replace H : (if 0 ≤ (ji7) then (if (ji7) ≤ (l0.length : Int) then ((slices_Equal_int_int.f k1 (l0.drop (x3_1 : Int).toNat) (l0.take ((ji7) : Int).toNat)).bind fun ab => (if ab = true then (some x3_1) else (impl_period.l0 k1 l0 (wrap64 (x3_1 + 1))))) else (none)) else (none)) = some r := by first | (rw [hji7] at H; exact H) | (simp only [hji7] at H ⊢; exact H)
        have hji7w : (IntKind.i64.wrap ((l0.length : Int) - x3_1)) = ji7 := (i64_w _).trans hji7
        by_cases c8 : 0 ≤ (ji7)
        ·rw [if_pos c8] at H; have ap := eq_true c8; have aq : decide (0 ≤ (ji7)) = true := decide_eq_true c8; clear c8
         by_cases c9 : (ji7) ≤ (l0.length : Int)
         ·rw [if_pos c9] at H; have ar := eq_true c9; have au : decide ((ji7) ≤ (l0.length : Int)) = true := decide_eq_true c9; clear c9; replace H := bI H; obtain ⟨ab, af, H⟩ := H; replace H : (if ab = true then (some x3_1) else (impl_period.l0 k1 l0 (wrap64 (x3_1 + 1)))) = some r := H; have aa := Aside0.mk af; clear af
          by_cases ae : ab = true
          ·subst ae
           have H1 : (some x3_1) = some r := by rw [if_pos rfl] at H; exact H
           clear H; have H := H1; clear H1; obtain rfl := Option.some.inj H; obtain ⟨i012, hi012, _, hsz12, _⟩ := info_parts info3; obtain ⟨ag, hcut12, hA12, hC12⟩ := print_drop_of (P := Try.prog) (Value.int .i64) 0 24 3 .i64 Try.underlying24 hi012 hsz12 A0 c0 l0 x3_1 (oD) (oD) HC0.out; have HR319 := Aside0.mk (Kd.C_of_reads (h1 := fun _ => rfl) (hA12 _ (Kd.reads_of_C HR0.out))); have HC319 := Aside0.mk hC12; clear hA12 hC12 hi012 hsz12; obtain ⟨i013, hi013, _, hsz13, _⟩ := info_parts info3; obtain ⟨hcut13, hA13, hC13⟩ := print_take_of (P := Try.prog) (Value.int .i64) 0 24 3 .i64 Try.underlying24 hi013 hsz13 A0 c0 l0 (ji7) (oD) (oD) HC0.out; have HR320 := Aside0.mk (Kd.C_of_reads (h1 := fun _ => rfl) (hA13 _ (Kd.reads_of_C HR0.out))); have HC320 := Aside0.mk hC13; clear hA13 hC13 hi013 hsz13
           go_wp2_with (first | (go_at_call 43; refine calls_of_args (args' := #[.slice ag (l0.drop (x3_1 : Int).toNat).length (c0 - x3_1.toNat), .slice A0 (l0.take ((ji7) : Int).toNat).length c0]) (by first | (rw [show (l0.drop (x3_1 : Int).toNat).length = (l0.length - x3_1.toNat) from List.length_drop, show (l0.take ((ji7) : Int).toNat).length = (ji7).toNat from (by rw [List.length_take]; have h_ : ((ji7) : Int) ≤ (l0.length : Int) := oD; omega)] <;> rfl) | (rw [show (l0.drop (x3_1 : Int).toNat).length = (l0.length - x3_1.toNat) from List.length_drop] <;> rfl) | (rw [show (l0.take ((ji7) : Int).toNat).length = (ji7).toNat from (by rw [List.length_take]; have h_ : ((ji7) : Int) ≤ (l0.length : Int) := oD; omega)] <;> rfl) | rfl) ?_; (with_reducible refine (slices_Equal_int_int.calls k1 _ _ (l0.drop (x3_1 : Int).toNat) _ _ (l0.take ((ji7) : Int).toNat) true _ ?side1 ?side2 ?side3 ?side4 aa.out).mono ?_); (case side1 => repeat (first | exact HR319.out | (with_reducible refine Kd.C_alloc ?_ _) | (with_reducible refine Kd.C_drewN ?_ _) | (with_reducible refine Kd.C_drew ?_))); (case side2 => exact HC319.out); (case side3 => repeat (first | exact HR320.out | (with_reducible refine Kd.C_alloc ?_ _) | (with_reducible refine Kd.C_drewN ?_ _) | (with_reducible refine Kd.C_drew ?_))); (case side4 => exact HC320.out); rintro e w' ⟨rfl, ⟨nd, rfl⟩⟩; (try first | exact ⟨rfl, _, World.drewN_drewN _ _ _⟩ | exact ⟨rfl, _, Eq.trans (World.drewN_drewN _ _ _) (congrArg (World.drewN _) (Nat.add_assoc _ _ _))⟩)))
           repeat (go_quiet (first | (go_at_call 43; refine calls_of_args (args' := #[.slice ag (l0.drop (x3_1 : Int).toNat).length (c0 - x3_1.toNat), .slice A0 (l0.take ((ji7) : Int).toNat).length c0]) (by first | (rw [show (l0.drop (x3_1 : Int).toNat).length = (l0.length - x3_1.toNat) from List.length_drop, show (l0.take ((ji7) : Int).toNat).length = (ji7).toNat from (by rw [List.length_take]; have h_ : ((ji7) : Int) ≤ (l0.length : Int) := oD; omega)] <;> rfl) | (rw [show (l0.drop (x3_1 : Int).toNat).length = (l0.length - x3_1.toNat) from List.length_drop] <;> rfl) | (rw [show (l0.take ((ji7) : Int).toNat).length = (ji7).toNat from (by rw [List.length_take]; have h_ : ((ji7) : Int) ≤ (l0.length : Int) := oD; omega)] <;> rfl) | rfl) ?_; (with_reducible refine (slices_Equal_int_int.calls k1 _ _ (l0.drop (x3_1 : Int).toNat) _ _ (l0.take ((ji7) : Int).toNat) true _ ?side1 ?side2 ?side3 ?side4 aa.out).mono ?_); (case side1 => repeat (first | exact HR319.out | (with_reducible refine Kd.C_alloc ?_ _) | (with_reducible refine Kd.C_drewN ?_ _) | (with_reducible refine Kd.C_drew ?_))); (case side2 => exact HC319.out); (case side3 => repeat (first | exact HR320.out | (with_reducible refine Kd.C_alloc ?_ _) | (with_reducible refine Kd.C_drewN ?_ _) | (with_reducible refine Kd.C_drew ?_))); (case side4 => exact HC320.out); rintro e w' ⟨rfl, ⟨nd, rfl⟩⟩; (try first | exact ⟨rfl, _, World.drewN_drewN _ _ _⟩ | exact ⟨rfl, _, Eq.trans (World.drewN_drewN _ _ _) (congrArg (World.drewN _) (Nat.add_assoc _ _ _))⟩))); try go_wp2_with (first | (go_at_call 43; refine calls_of_args (args' := #[.slice ag (l0.drop (x3_1 : Int).toNat).length (c0 - x3_1.toNat), .slice A0 (l0.take ((ji7) : Int).toNat).length c0]) (by first | (rw [show (l0.drop (x3_1 : Int).toNat).length = (l0.length - x3_1.toNat) from List.length_drop, show (l0.take ((ji7) : Int).toNat).length = (ji7).toNat from (by rw [List.length_take]; have h_ : ((ji7) : Int) ≤ (l0.length : Int) := oD; omega)] <;> rfl) | (rw [show (l0.drop (x3_1 : Int).toNat).length = (l0.length - x3_1.toNat) from List.length_drop] <;> rfl) | (rw [show (l0.take ((ji7) : Int).toNat).length = (ji7).toNat from (by rw [List.length_take]; have h_ : ((ji7) : Int) ≤ (l0.length : Int) := oD; omega)] <;> rfl) | rfl) ?_; (with_reducible refine (slices_Equal_int_int.calls k1 _ _ (l0.drop (x3_1 : Int).toNat) _ _ (l0.take ((ji7) : Int).toNat) true _ ?side1 ?side2 ?side3 ?side4 aa.out).mono ?_); (case side1 => repeat (first | exact HR319.out | (with_reducible refine Kd.C_alloc ?_ _) | (with_reducible refine Kd.C_drewN ?_ _) | (with_reducible refine Kd.C_drew ?_))); (case side2 => exact HC319.out); (case side3 => repeat (first | exact HR320.out | (with_reducible refine Kd.C_alloc ?_ _) | (with_reducible refine Kd.C_drewN ?_ _) | (with_reducible refine Kd.C_drew ?_))); (case side4 => exact HC320.out); rintro e w' ⟨rfl, ⟨nd, rfl⟩⟩; (try first | exact ⟨rfl, _, World.drewN_drewN _ _ _⟩ | exact ⟨rfl, _, Eq.trans (World.drewN_drewN _ _ _) (congrArg (World.drewN _) (Nat.add_assoc _ _ _))⟩))))
           go_ret; exact ⟨by first | rfl | (simp; done) | (simp only [← hji7] <;> (first | rfl | simp)) | (simp [*]; done), by repeat (first | exact Drawn0.refl _ | apply Drawn0.step)⟩
          ·replace ae := Bool.eq_false_iff.mpr ae; subst ae
           have H1 : (impl_period.l0 k1 l0 (wrap64 (x3_1 + 1))) = some r := by rw [if_neg (show ¬ (false = true) by decide)] at H; exact H
           clear H; have H := H1; clear H1; have H' := Aside0.mk H; clear H; obtain ⟨i014, hi014, _, hsz14, _⟩ := info_parts info3; obtain ⟨ah, hcut14, hA14, hC14⟩ := print_drop_of (P := Try.prog) (Value.int .i64) 0 24 3 .i64 Try.underlying24 hi014 hsz14 A0 c0 l0 x3_1 (oD) (oD) HC0.out; have HR319 := Aside0.mk (Kd.C_of_reads (h1 := fun _ => rfl) (hA14 _ (Kd.reads_of_C HR0.out))); have HC319 := Aside0.mk hC14; clear hA14 hC14 hi014 hsz14; obtain ⟨i015, hi015, _, hsz15, _⟩ := info_parts info3; obtain ⟨hcut15, hA15, hC15⟩ := print_take_of (P := Try.prog) (Value.int .i64) 0 24 3 .i64 Try.underlying24 hi015 hsz15 A0 c0 l0 (ji7) (oD) (oD) HC0.out; have HR320 := Aside0.mk (Kd.C_of_reads (h1 := fun _ => rfl) (hA15 _ (Kd.reads_of_C HR0.out))); have HC320 := Aside0.mk hC15; clear hA15 hC15 hi015 hsz15
           go_wp2_with (first | (go_at_call 43; refine calls_of_args (args' := #[.slice ah (l0.drop (x3_1 : Int).toNat).length (c0 - x3_1.toNat), .slice A0 (l0.take ((ji7) : Int).toNat).length c0]) (by first | (rw [show (l0.drop (x3_1 : Int).toNat).length = (l0.length - x3_1.toNat) from List.length_drop, show (l0.take ((ji7) : Int).toNat).length = (ji7).toNat from (by rw [List.length_take]; have h_ : ((ji7) : Int) ≤ (l0.length : Int) := oD; omega)] <;> rfl) | (rw [show (l0.drop (x3_1 : Int).toNat).length = (l0.length - x3_1.toNat) from List.length_drop] <;> rfl) | (rw [show (l0.take ((ji7) : Int).toNat).length = (ji7).toNat from (by rw [List.length_take]; have h_ : ((ji7) : Int) ≤ (l0.length : Int) := oD; omega)] <;> rfl) | rfl) ?_; (with_reducible refine (slices_Equal_int_int.calls k1 _ _ (l0.drop (x3_1 : Int).toNat) _ _ (l0.take ((ji7) : Int).toNat) false _ ?side1 ?side2 ?side3 ?side4 aa.out).mono ?_); (case side1 => repeat (first | exact HR319.out | (with_reducible refine Kd.C_alloc ?_ _) | (with_reducible refine Kd.C_drewN ?_ _) | (with_reducible refine Kd.C_drew ?_))); (case side2 => exact HC319.out); (case side3 => repeat (first | exact HR320.out | (with_reducible refine Kd.C_alloc ?_ _) | (with_reducible refine Kd.C_drewN ?_ _) | (with_reducible refine Kd.C_drew ?_))); (case side4 => exact HC320.out); rintro e w' ⟨rfl, ⟨nd, rfl⟩⟩; (try first | exact ⟨rfl, _, World.drewN_drewN _ _ _⟩ | exact ⟨rfl, _, Eq.trans (World.drewN_drewN _ _ _) (congrArg (World.drewN _) (Nat.add_assoc _ _ _))⟩)))
           repeat (go_quiet (first | (go_at_call 43; refine calls_of_args (args' := #[.slice ah (l0.drop (x3_1 : Int).toNat).length (c0 - x3_1.toNat), .slice A0 (l0.take ((ji7) : Int).toNat).length c0]) (by first | (rw [show (l0.drop (x3_1 : Int).toNat).length = (l0.length - x3_1.toNat) from List.length_drop, show (l0.take ((ji7) : Int).toNat).length = (ji7).toNat from (by rw [List.length_take]; have h_ : ((ji7) : Int) ≤ (l0.length : Int) := oD; omega)] <;> rfl) | (rw [show (l0.drop (x3_1 : Int).toNat).length = (l0.length - x3_1.toNat) from List.length_drop] <;> rfl) | (rw [show (l0.take ((ji7) : Int).toNat).length = (ji7).toNat from (by rw [List.length_take]; have h_ : ((ji7) : Int) ≤ (l0.length : Int) := oD; omega)] <;> rfl) | rfl) ?_; (with_reducible refine (slices_Equal_int_int.calls k1 _ _ (l0.drop (x3_1 : Int).toNat) _ _ (l0.take ((ji7) : Int).toNat) false _ ?side1 ?side2 ?side3 ?side4 aa.out).mono ?_); (case side1 => repeat (first | exact HR319.out | (with_reducible refine Kd.C_alloc ?_ _) | (with_reducible refine Kd.C_drewN ?_ _) | (with_reducible refine Kd.C_drew ?_))); (case side2 => exact HC319.out); (case side3 => repeat (first | exact HR320.out | (with_reducible refine Kd.C_alloc ?_ _) | (with_reducible refine Kd.C_drewN ?_ _) | (with_reducible refine Kd.C_drew ?_))); (case side4 => exact HC320.out); rintro e w' ⟨rfl, ⟨nd, rfl⟩⟩; (try first | exact ⟨rfl, _, World.drewN_drewN _ _ _⟩ | exact ⟨rfl, _, Eq.trans (World.drewN_drewN _ _ _) (congrArg (World.drewN _) (Nat.add_assoc _ _ _))⟩))); try go_wp2_with (first | (go_at_call 43; refine calls_of_args (args' := #[.slice ah (l0.drop (x3_1 : Int).toNat).length (c0 - x3_1.toNat), .slice A0 (l0.take ((ji7) : Int).toNat).length c0]) (by first | (rw [show (l0.drop (x3_1 : Int).toNat).length = (l0.length - x3_1.toNat) from List.length_drop, show (l0.take ((ji7) : Int).toNat).length = (ji7).toNat from (by rw [List.length_take]; have h_ : ((ji7) : Int) ≤ (l0.length : Int) := oD; omega)] <;> rfl) | (rw [show (l0.drop (x3_1 : Int).toNat).length = (l0.length - x3_1.toNat) from List.length_drop] <;> rfl) | (rw [show (l0.take ((ji7) : Int).toNat).length = (ji7).toNat from (by rw [List.length_take]; have h_ : ((ji7) : Int) ≤ (l0.length : Int) := oD; omega)] <;> rfl) | rfl) ?_; (with_reducible refine (slices_Equal_int_int.calls k1 _ _ (l0.drop (x3_1 : Int).toNat) _ _ (l0.take ((ji7) : Int).toNat) false _ ?side1 ?side2 ?side3 ?side4 aa.out).mono ?_); (case side1 => repeat (first | exact HR319.out | (with_reducible refine Kd.C_alloc ?_ _) | (with_reducible refine Kd.C_drewN ?_ _) | (with_reducible refine Kd.C_drew ?_))); (case side2 => exact HC319.out); (case side3 => repeat (first | exact HR320.out | (with_reducible refine Kd.C_alloc ?_ _) | (with_reducible refine Kd.C_drewN ?_ _) | (with_reducible refine Kd.C_drew ?_))); (case side4 => exact HC320.out); rintro e w' ⟨rfl, ⟨nd, rfl⟩⟩; (try first | exact ⟨rfl, _, World.drewN_drewN _ _ _⟩ | exact ⟨rfl, _, Eq.trans (World.drewN_drewN _ _ _) (congrArg (World.drewN _) (Nat.add_assoc _ _ _))⟩))))
           (first | go_roundg k1 | ((try simp only [← hji7]); go_roundg k1))
           case measure => have := HK1.out; omega
           case rel => exact ⟨(wrap64 (x3_1 + 1)), vv, (by first | exact H' | (have h_ := H'; (try simp only [← hji7] at h_); (try simp only [← hji7]); exact h_)), ⟨by have := HK1.out; omega⟩, by repeat (first | exact Drawn0.refl _ | apply Drawn0.step)⟩
         ·rw [if_neg c9] at H; exact absurd H (by simp)
        ·rw [if_neg c8] at H; exact absurd H (by simp)
       ·rw [if_neg c6] at H; exact absurd H (by simp)
      ·rw [if_neg c5] at H; exact absurd H (by simp)
     ·rw [if_neg c4] at H; have ac : (((l0.length : Int) % x3_1) == 0) = false := beq_eq_false_iff_ne.mpr c4
      have c4b0t : ((Int.tmod (l0.length : Int) x3_1) == 0) = false := by rw [Int.tmod_eq_emod_of_nonneg (by first | exact Int.natCast_nonneg _ | omega)]; exact ac
      have ad : (((l0.length : Int) % x3_1) != 0) = true := bne_iff_ne.mpr c4
      have c4b1t : ((Int.tmod (l0.length : Int) x3_1) != 0) = true := by rw [Int.tmod_eq_emod_of_nonneg (by first | exact Int.natCast_nonneg _ | omega)]; exact ad
      have H' := Aside0.mk H; clear H
      go_wp2
      repeat (go_quiet (fail); try go_wp2)
      go_roundg k1
      case measure => have := HK1.out; omega
      case rel => exact ⟨(wrap64 (x3_1 + 1)), vv, H', ⟨by have := HK1.out; omega⟩, by repeat (first | exact Drawn0.refl _ | apply Drawn0.step)⟩
   ·rw [if_neg c2] at H; have ai : decide (x3_1 < (l0.length : Int)) = false := decide_eq_false c2; clear c2; obtain rfl := Option.some.inj H
    go_wp2
    repeat (go_quiet (fail); try go_wp2)
    go_ret; exact ⟨by first | rfl | (simp; done) | (simp [*]; done), by repeat (first | exact Drawn0.refl _ | apply Drawn0.step)⟩

/-! ### slices_Grow_int_int: function 44 -/
def slices_Grow_int_int.f (l0 : List Int) (a1 : Int) : Option (List Int) := if l0.length = 0 ∧ 0 ≤ a1 ∧ a1 < 1099511627776 then some [] else none
set_option maxHeartbeats 8000000 in
set_option maxRecDepth 100000 in
theorem slices_Grow_int_int.core (n : Nat) (hn : n < 1099511627776) (w : World) :
    Calls Try.prog 44 #[.slice none 0 0, .int .i64 (n : Int)] w fun e w' => ∃ v0_ : Value, e = .returned (v0_) ∧ Kd.R (Kd.int .i64) 3 w' w.heap.size (fun _ => True) v0_ [] ∧ Below w.heap.size w w' := by
  have hneg : decide ((n : Int) < 0) = false := decide_eq_false (by omega)
  have hw0 : IntKind.i64.wrap (0 - 0) = 0 := by rw [IntKind.wrap_i64]; omega
  have hw1 : IntKind.i64.wrap ((n : Int) - 0) = n := by rw [IntKind.wrap_i64]; omega
  have hw2 : IntKind.i64.wrap (n : Int) = n := by rw [IntKind.wrap_i64]; omega
  by_cases h0 : n = 0
  · subst h0
    have hpos : decide ((0 : Int) < ((0 : Nat) : Int)) = false := decide_eq_false (by omega)
    go_enter Try.func44, Try.ntmps44
    go_wp2
    go_ret
    exact ⟨_, rfl, Kd.R_nil _ _ _ _ _, Below.refl _ _⟩
  · have hpos : decide ((0 : Int) < (n : Int)) = true := decide_eq_true (by omega)
    have hposN : decide (0 < n) = true := decide_eq_true (by omega)
    have hposT : 0 < n := by omega
    have hinf : (Try.prog.info? 3).map (fun i => (i.zero, i.size, i.bytes)) = some (some (.int .i64 0), 1, 8) := by kernel_rfl
    obtain ⟨i0, hi0, _, hsz0, _⟩ := info_parts hinf
    have hcut0 := cut_to (P := Try.prog) 24 3 .i64 Try.underlying24 hi0 none 0 0 0 (by omega) (by omega) (by omega)
    have HINF := Aside0.mk hinf
    have HN := Aside0.mk hn
    have HI := Aside0.mk hi0
    clear hinf hn h0 hi0 hsz0
    go_enter Try.func44, Try.ntmps44
    go_wp2_with (first
      | (at_builtin; refine Kd.R_append_zeros (Kd.int .i64) (w0 := w) w.heap.size rfl (.tmp 20) (.tmp 21) 24 3 3 (.int .i64 0) 8 rfl Try.underlying24 Try.underlying3 HINF.out rfl (by decide) (by omega) (.slice none 0 0) [] (0 : Int) (n : Int) (fun _ => True) rfl rfl ?aZ (fun _ _ => trivial) ?aO ?aN ?aB ?aS ?aL ?_; (case aZ => exact rfl); (case aO => exact Kd.R_nil _ _ _ _ _); (case aN => omega); (case aB => exact Below.refl _ _); (case aS => exact Nat.le_refl _); (case aL => have := HN.out; simp; omega); intro v1 w1 ho hb hg hat; obtain ⟨Ao, co, eo⟩ := Kd.R_slice ho; subst eo; have HO := Aside0.mk ho; have HB := Aside0.mk hb; have hcut1 := cut_to (P := Try.prog) 24 3 .i64 Try.underlying24 HI.out Ao ([] ++ List.replicate (n : Int).toNat (0 : Int)).length co 0 (by omega) (by omega) (Kd.R_reads' ho).2.1; clear ho hb hg hat))
    go_ret
    exact ⟨_, rfl, by have := Kd.R_take (m := 0) HO.out (by omega); simpa using this, HB.out⟩
theorem slices_Grow_int_int.calls (A0 : Option Addr) (c0 : Nat) (l0 : List Int) (a1 : Int) (r : List Int) (w : World) (hr0 : Kd.C (Kd.int .i64) w A0 l0.length l0) (hc0 : l0.length ≤ c0) (h : slices_Grow_int_int.f l0 a1 = some r) :
    Calls Try.prog 44 #[.slice none 0 0, .int .i64 a1] w fun e w' => ∃ v0_ : Value, e = .returned (v0_) ∧ Kd.R (Kd.int .i64) 3 w' w.heap.size (fun _ => True) v0_ r ∧ Below w.heap.size w w' := by
  unfold slices_Grow_int_int.f at h
  by_cases hl : l0.length = 0 ∧ 0 ≤ a1 ∧ a1 < 1099511627776
  · rw [if_pos hl] at h
    obtain rfl := Option.some.inj h
    have := slices_Grow_int_int.core a1.toNat (by omega) w
    rwa [show ((a1.toNat : Nat) : Int) = a1 by omega] at this
  · rw [if_neg hl] at h
    cases h


/-! ### slices_Concat_int_int: function 26 -/
mutual
def slices_Concat_int_int.l0 : Nat → List (List Int) → Int → List (List Int) → Int → Int → Option (List Int)
 | 0, _, _, _, _, _ => none
 | k + 1, x0, x3, x9, x10, x11 => if x11 < x10 then (if 0 ≤ x11 then (if x11 < (x9.length : Int) then (if (wrap64 (x3 + ((rd_L2 x9 x11).length : Int))) < 0 then (none) else (slices_Concat_int_int.l0 k x0 (wrap64 (x3 + ((rd_L2 x9 x11).length : Int))) x9 x10 (wrap64 (x11 + 1)))) else (none)) else (none)) else ((slices_Grow_int_int.f ([] : List Int) x3).bind fun t323 => (slices_Concat_int_int.l1 k t323 x0 (x0.length : Int) 0))
def slices_Concat_int_int.l1 : Nat → List Int → List (List Int) → Int → Int → Option (List Int)
 | 0, _, _, _, _ => none
 | k + 1, x6, x25, x26, x27 => if x27 < x26 then (if 0 ≤ x27 then (if x27 < (x25.length : Int) then (if x6.length + (rd_L2 x25 x27).length < 17592186044416 then (slices_Concat_int_int.l1 k (x6 ++ (rd_L2 x25 x27)) x25 x26 (wrap64 (x27 + 1))) else (none)) else (none)) else (none)) else (some x6)
end
def slices_Concat_int_int.f (k : Nat) (l0 : List (List Int)) : Option (List Int) := slices_Concat_int_int.l0 k l0 0 l0 (l0.length : Int) 0
theorem slices_Concat_int_int.mono_l : ∀ k, (∀ y0 y1 y2 y3 y4, LeO (slices_Concat_int_int.l0 k y0 y1 y2 y3 y4) (slices_Concat_int_int.l0 (k + 1) y0 y1 y2 y3 y4)) ∧ (∀ y0 y1 y2 y3, LeO (slices_Concat_int_int.l1 k y0 y1 y2 y3) (slices_Concat_int_int.l1 (k + 1) y0 y1 y2 y3))
 | 0 => ⟨fun _ _ _ _ _ r h => by simp [slices_Concat_int_int.l0] at h, fun _ _ _ _ r h => by simp [slices_Concat_int_int.l1] at h⟩
 | k + 1 => by
  obtain ⟨ih0, ih1⟩ := slices_Concat_int_int.mono_l k
  refine ⟨?_, ?_⟩
  ·intro y0 y1 y2 y3 y4
   unfold slices_Concat_int_int.l0
   repeat' first
   | (with_reducible exact ih0 _ _ _ _ _)
   | (with_reducible exact ih1 _ _ _ _)
   | (with_reducible exact LeO.refl _)
   | (with_reducible exact LeO.none _)
   | (with_reducible refine LeO.ite ?_ ?_)
   | (with_reducible refine LeO.bind ?_ (fun _ => ?_))
   | exact ih0 _ _ _ _ _
   | exact ih1 _ _ _ _
   | exact LeO.none _
   | refine LeO.ite ?_ ?_
   | refine LeO.bind ?_ (fun _ => ?_)
  ·intro y0 y1 y2 y3
   unfold slices_Concat_int_int.l1
   repeat' first
   | (with_reducible exact ih0 _ _ _ _ _)
   | (with_reducible exact ih1 _ _ _ _)
   | (with_reducible exact LeO.refl _)
   | (with_reducible exact LeO.none _)
   | (with_reducible refine LeO.ite ?_ ?_)
   | (with_reducible refine LeO.bind ?_ (fun _ => ?_))
   | exact ih0 _ _ _ _ _
   | exact ih1 _ _ _ _
   | exact LeO.none _
   | refine LeO.ite ?_ ?_
   | refine LeO.bind ?_ (fun _ => ?_)
theorem slices_Concat_int_int.mono : ∀ a0 k, LeO (slices_Concat_int_int.f k a0) (slices_Concat_int_int.f (k + 1) a0) := by
 intro a0 k
 obtain ⟨ih0, ih1⟩ := slices_Concat_int_int.mono_l k
 unfold slices_Concat_int_int.f
 repeat' first
   | (with_reducible exact ih0 _ _ _ _ _)
   | (with_reducible exact ih1 _ _ _ _)
   | (with_reducible exact LeO.refl _)
   | (with_reducible exact LeO.none _)
   | (with_reducible refine LeO.ite ?_ ?_)
   | (with_reducible refine LeO.bind ?_ (fun _ => ?_))
   | exact ih0 _ _ _ _ _
   | exact ih1 _ _ _ _
   | exact LeO.none _
   | refine LeO.ite ?_ ?_
   | refine LeO.bind ?_ (fun _ => ?_)
open Go.Proofs.Ytbdcchbhelehcaa.Short2 in
set_option maxHeartbeats 8000000 in
set_option maxRecDepth 100000 in
theorem slices_Concat_int_int.calls (k : Nat) (A0 : Option Addr) (c0 : Nat) (l0 : List (List Int)) (r : List Int) (w : World) (hr0 : Kd.C (Kd.slice 3 (Kd.int .i64)) w A0 l0.length l0) (hc0 : l0.length ≤ c0) (h : slices_Concat_int_int.f k l0 = some r) :
  Calls Try.prog 26 #[.slice A0 l0.length c0] w fun e w' => ∃ v0_ : Value, e = .returned (v0_) ∧ Kd.R (Kd.int .i64) 3 w' w.heap.size (fun _ => True) v0_ r ∧ Below w.heap.size w w' := by
 have HR0 := Aside0.mk hr0; have HC0 := Aside0.mk hc0; clear hr0 hc0; have HB := Aside0.mk (Below.refl w.heap.size w); have H : (slices_Concat_int_int.l0 k l0 0 l0 (l0.length : Int) 0) = some r := h; clear h; have H' := Aside0.mk H; clear H
 go_enter Try.func26, Try.ntmps26
 go_wp2
 go_loopg [3, 11] k (fun kq v3 az w' => ∃ (x3_1 : Int) (ab : Int), v3 = .int .i64 x3_1 ∧ az = .int .i64 ab ∧ Aside0 (slices_Concat_int_int.l0 kq l0 x3_1 l0 (l0.length : Int) ab = some r) ∧ Aside0 (kq ≤ k) ∧ Aside0 (Below w.heap.size w w'))
 case atStart => exact ⟨(0), (0), vv, vv, H', ⟨Nat.le_refl _⟩, ⟨zS HB.out⟩⟩
 case round =>
  clear H'; obtain ⟨x3_1, ab, rfl, rfl, HA, HK1, HB⟩ := hrel
  cases gk with
  | zero => exact absurd HA.out (by simp [slices_Concat_int_int.l0])
  | succ k1 =>
   have H := HA.out; clear HA; simp only [slices_Concat_int_int.l0] at H
   by_cases c2 : ab < (l0.length : Int)
   ·rw [if_pos c2] at H; have al : decide (ab < (l0.length : Int)) = true := decide_eq_true c2; clear c2
    by_cases c3 : 0 ≤ ab
    ·rw [if_pos c3] at H; have av : decide (0 ≤ ab) = true := decide_eq_true c3; clear c3
     by_cases c4 : ab < (l0.length : Int)
     ·rw [if_pos c4] at H; have aw : decide (ab < (l0.length : Int)) = true := decide_eq_true c4; clear c4
      by_cases c5 : (wrap64 (x3_1 + ((rd_L2 l0 ab).length : Int))) < 0
      ·rw [if_pos c5] at H; exact absurd H (by simp)
      ·rw [if_neg c5] at H; have ax : decide ((wrap64 (x3_1 + ((rd_L2 l0 ab).length : Int))) < 0) = false := decide_eq_false c5; clear c5; have H' := Aside0.mk H; clear H; have af : 0 ≤ (ab : Int) := oD; have q322 : ab < (l0.length : Int) := oD; obtain ⟨ad322, A322_0, c322_0, e322, ad, hl322_0, hi322_0⟩ := at_L2 HR0.out ab af q322
       cases e322
       replace ad := ct_ HB ad; have HR322_0 := Aside0.mk hi322_0; have HC322_0 := Aside0.mk hl322_0; clear hi322_0 hl322_0; replace af := eq_true af; replace q322 := eq_true q322
       go_wp2
       go_roundg k1
       case measure => have := HK1.out; omega
       case rel => exact ⟨(wrap64 (x3_1 + ((rd_L2 l0 ab).length : Int))), (wrap64 (ab + 1)), vv, vv, H', ⟨by have := HK1.out; omega⟩, ⟨zS HB.out⟩⟩
     ·rw [if_neg c4] at H; exact absurd H (by simp)
    ·rw [if_neg c3] at H; exact absurd H (by simp)
   ·rw [if_neg c2] at H; have al : decide (ab < (l0.length : Int)) = false := decide_eq_false c2; clear c2; replace H := bI H; obtain ⟨ag, aq, H⟩ := H; replace H : (slices_Concat_int_int.l1 k1 ag l0 (l0.length : Int) 0) = some r := H; have A6 := Aside0.mk aq; clear aq; have H' := Aside0.mk H; clear H
    go_wp2_with (first | ((with_reducible refine gate_callee (f := 44) rfl ?_); refine gl_ (some 24) Try.func44 #[.slice none 0 0, .int .i64 x3_1] ?_; (refine (slices_Grow_int_int.calls none 0 ([] : List Int) x3_1 ag _ ?side1 ?side2 A6.out).mono ?_); (case side1 => exact Kd.C_nil _ _); (case side2 => exact Nat.le_refl _); rintro e w7 ⟨aD, rfl, ho0, hb⟩; refine ⟨_, rfl, ?_⟩; have an := rW0 ho0 HB; replace HB := xS HB hb; (try clear hb); (try clear hb2); (try clear hk); (try clear hi); (try clear ho0)))
    go_loopg [6, 27] k1 (fun kq v6 aA w' => ∃ (x6_2 : List Int) (aa : Int), aA = .int .i64 aa ∧ Aside0 (slices_Concat_int_int.l1 kq x6_2 l0 (l0.length : Int) aa = some r) ∧ Aside0 (kq ≤ k1) ∧ Aside0 (Kd.R (Kd.int .i64) 3 w' w.heap.size (fun _ => True) v6 x6_2) ∧ Aside0 (Below w.heap.size w w'))
    case atStart => exact ⟨(ag), (0), vv, H', ⟨Nat.le_refl _⟩, ⟨zR an.out⟩, ⟨zS HB.out⟩⟩
    case round =>
     clear H'
     try clear c2
     try clear al
     try clear p2
     try clear c3
     try clear av
     try clear p3
     try clear q3
     try clear hx3
     try clear c4
     try clear aw
     try clear c5
     try clear ax
     try clear p6
     try clear ad
     try clear af
     try clear q322
     obtain ⟨x6_2, aa, rfl, HA, HK2, ah, HB⟩ := hrel
     cases gk with
     | zero => exact absurd HA.out (by simp [slices_Concat_int_int.l1])
     | succ k2 =>
      have H := HA.out; clear HA; simp only [slices_Concat_int_int.l1] at H
      by_cases c8 : aa < (l0.length : Int)
      ·rw [if_pos c8] at H; have ay : decide (aa < (l0.length : Int)) = true := decide_eq_true c8; clear c8
       by_cases c9 : 0 ≤ aa
       ·rw [if_pos c9] at H; have aE : decide (0 ≤ aa) = true := decide_eq_true c9; clear c9
        by_cases aj : aa < (l0.length : Int)
        ·rw [if_pos aj] at H; have aC : decide (aa < (l0.length : Int)) = true := decide_eq_true aj; clear aj
         by_cases ak : x6_2.length + (rd_L2 l0 aa).length < 17592186044416
         ·rw [if_pos ak] at H; have LMc11 := Aside0.mk ak; clear ak; obtain ⟨am, ac⟩ : ∃ y_ : List Int, y_ = (x6_2 ++ (rd_L2 l0 aa)) := ⟨_, rfl⟩
          replace H : (slices_Concat_int_int.l1 k2 am l0 (l0.length : Int) (wrap64 (aa + 1))) = some r := by first | (rw [ac]; with_reducible exact H) | (have H2_ := (Option.bind_some _ _).symm.trans H; rw [ac]; with_reducible exact H2_) | (have H2_ := (Option.bind_some _ _).symm.trans H; with_reducible exact H2_) | with_reducible exact H | (rw [ac]; exact H) | exact H
          have ao := Aside0.mk ac; clear ac; have H' := Aside0.mk H; clear H; have ai : 0 ≤ (aa : Int) := oD; have q326 : aa < (l0.length : Int) := oD; obtain ⟨ad326, A326_0, c326_0, e326, ae, hl326_0, hi326_0⟩ := at_L2 HR0.out aa ai q326
          cases e326
          replace ae := ct_ HB ae; have HR326_0 := Aside0.mk hi326_0; have HC326_0 := Aside0.mk hl326_0; clear hi326_0 hl326_0; replace ai := eq_true ai; replace q326 := eq_true q326
          go_wp2_with (first | ((with_reducible refine gate_builtin (b := .append) (xs := #[.tmp 31, .tmp 32]) rfl ?_); at_builtin; refine Kd.R_append_rows (Kd.int .i64) (w0 := w) w.heap.size rfl (.tmp 31) (.tmp 32) 24 3 (.int .i64 0) 8 rfl Try.underlying24 info3 rfl (by decide) (by omega) u6 x6_2 (rd_L2 l0 aa) _ _ _ (fun _ => True) (fun _ => False) rfl rfl ?aO ?aR (fun _ _ h => h) (fun _ h => h.elim) ?aF ?aB ?aS ?aL ?_; (case aR => repeat (first | exact (Kd.C_below HR326_0.out HB.out) | (with_reducible refine Kd.C_alloc ?_ _) | (with_reducible refine Kd.C_drewN ?_ _) | (with_reducible refine Kd.C_drew ?_))); (case aB => exact (zS HB.out)); (case aF => exact (fun _ _ => trivial)); (case aO => exact (zR ah.out)); (case aS => exact (below_size (zS HB.out))); (case aL => have := LMc11.out; omega); intro aG aH ho hb hg hat; rw [← ao.out] at ho; have ar := Aside0.mk (hb); have au := Aside0.mk (ho); clear HB; clear ah; have HB := ar; have ap := au; clear ar au; clear ho hb hg hat))
          go_roundg k2
          case measure => have := HK1.out; have := HK2.out; omega
          case rel => exact ⟨(am), (wrap64 (aa + 1)), vv, H', ⟨by have := HK1.out; have := HK2.out; omega⟩, ⟨zR ap.out⟩, ⟨zS HB.out⟩⟩
         ·rw [if_neg ak] at H; exact absurd H (by simp)
        ·rw [if_neg aj] at H; exact absurd H (by simp)
       ·rw [if_neg c9] at H; exact absurd H (by simp)
      ·rw [if_neg c8] at H; have ay : decide (aa < (l0.length : Int)) = false := decide_eq_false c8; clear c8; obtain rfl := Option.some.inj H
       go_wp2
       go_ret; exact ⟨_, vw, by (with_reducible repeat (first | apply Kd.R_alloc | apply Kd.R_drewN | apply Kd.R_drew)); exact ah.out, zS HB.out⟩

section
open Go.Proofs.Ytbdcchbhelehcaa.Short2.T
abbrev impl_WordCanon.bl0 : Array Bool := #[f, f, f, f, f, f, f, f]
abbrev impl_WordCanon.bl1 : Array Bool := #[t, f, f, f, f, f, f, f]
abbrev impl_WordCanon.bl2 : Array Bool := #[t, f, t, f, f, f, f, f]
abbrev impl_WordCanon.bl3 : Array Bool := #[t, t, t, f, f, f, f, f]
abbrev impl_WordCanon.bl4 : Array Bool := #[t, t, t, t, f, f, f, f]
abbrev impl_WordCanon.bl5 : Array Bool := #[t, t, t, t, t, f, f, f]
abbrev impl_WordCanon.bl6 : Array Bool := #[t, t, t, t, t, t, f, f]
abbrev impl_WordCanon.bl7 : Array Bool := #[t, t, t, t, t, t, t, f]
abbrev impl_WordCanon.bl8 : Array Bool := #[t, t, t, t, t, t, t, t]
abbrev impl_WordCanon.bl9 : Array Bool := #[f, f, f, f, f, f, f, f, f, f, f, f, f, f, f, f]
abbrev impl_WordCanon.bl10 : Array Bool := #[t, f, f, f, f, f, f, f, f, f, f, f, f, f, f, f]
abbrev impl_WordCanon.bl11 : Array Bool := #[t, t, f, f, f, f, f, f, f, f, f, f, f, f, f, f]
abbrev impl_WordCanon.bl12 : Array Bool := #[t, t, t, f, f, f, f, f, f, f, f, f, f, f, f, f]
abbrev impl_WordCanon.bl13 : Array Bool := #[t, t, t, t, f, f, f, f, f, f, f, f, f, f, f, f]
abbrev impl_WordCanon.bl14 : Array Bool := #[t, t, t, t, t, f, f, f, f, f, f, f, f, f, f, f]
abbrev impl_WordCanon.bl15 : Array Bool := #[t, t, t, t, t, t, f, f, f, f, f, f, f, f, f, f]
abbrev impl_WordCanon.bl16 : Array Bool := #[t, t, t, t, t, t, t, f, f, f, f, f, f, f, f, f]
abbrev impl_WordCanon.bl17 : Array Bool := #[t, t, t, t, t, t, t, t, f, f, f, f, f, f, f, f]
abbrev impl_WordCanon.bl18 : Array Bool := #[t, t, t, t, t, t, t, t, t, f, f, f, f, f, f, f]
abbrev impl_WordCanon.bl19 : Array Bool := #[t, t, t, t, t, t, t, t, t, f, t, f, f, f, f, f]
abbrev impl_WordCanon.bl20 : Array Bool := #[t, t, t, t, t, t, t, t, t, f, t, t, f, f, f, f]
abbrev impl_WordCanon.bl21 : Array Bool := #[t, t, t, t, t, t, t, t, t, f, t, t, t, f, f, f]
abbrev impl_WordCanon.bl22 : Array Bool := #[t, t, t, t, t, t, t, t, t, t, t, t, t, f, f, f]
abbrev impl_WordCanon.bl23 : Array Bool := #[t, t, t, t, t, t, t, t, t, t, t, t, t, t, f, f]
abbrev impl_WordCanon.bl24 : Array Bool := #[t, t, t, t, t, t, t, t, t, t, t, t, t, t, t, f]
abbrev impl_WordCanon.bl25 : Array Bool := #[t, t, t, t, t, t, t, t, t, t, t, t, t, t, t, t]
abbrev impl_WordCanon.bl26 : Array Bool := #[f, f, f, f, f, f, f, f, f]
abbrev impl_WordCanon.bl27 : Array Bool := #[t, f, f, f, f, f, f, f, f]
abbrev impl_WordCanon.bl28 : Array Bool := #[t, t, f, f, f, f, f, f, f]
abbrev impl_WordCanon.bl29 : Array Bool := #[t, t, t, f, f, f, f, f, f]
abbrev impl_WordCanon.bl30 : Array Bool := #[t, t, t, t, f, f, f, f, f]
abbrev impl_WordCanon.bl31 : Array Bool := #[t, t, t, t, t, f, f, f, f]
abbrev impl_WordCanon.bl32 : Array Bool := #[t, t, t, t, t, t, f, f, f]
abbrev impl_WordCanon.bl33 : Array Bool := #[t, t, t, t, t, t, t, f, f]
abbrev impl_WordCanon.bl34 : Array Bool := #[t, t, t, t, t, t, t, t, f]
abbrev impl_WordCanon.bl35 : Array Bool := #[t, t, t, t, t, t, t, t, t]
abbrev impl_WordCanon.bl36 : Array Bool := #[t, t, t, t, t, t, t, t, t, t, f, f, f, f, f, f]
abbrev impl_WordCanon.bl37 : Array Bool := #[t, t, t, t, t, t, t, t, t, t, t, f, f, f, f, f]
abbrev impl_WordCanon.bl38 : Array Bool := #[t, t, t, t, t, t, t, t, t, t, t, t, f, f, f, f]
end
/-! ### impl_WordCanon: function 6 -/
def impl_WordCanon.l0 : Nat → List Int → List Int → Int → Option (List Int × List Int)
 | 0, _, _, _ => none
 | k + 1, x3, x4, x5 => if (x3.length : Int) > 0 then (if 0 ≤ (wrap64 ((x3.length : Int) - 1)) then (if (wrap64 ((x3.length : Int) - 1)) < (x3.length : Int) then (if 0 ≤ x5 then (if x5 < (x4.length : Int) then (if (rd x3 (wrap64 ((x3.length : Int) - 1))) = (rd x4 x5) then (if (wrap64 ((x3.length : Int) - 1)) ≤ (x3.length : Int) then (if x5 ≤ (x4.length : Int) then ((slices_Concat_int_int.f k (([(x4.drop (x5 : Int).toNat), (x4.take (x5 : Int).toNat)] : List (List Int)))).bind fun t359 => (impl_WordCanon.l0 k (x3.take ((wrap64 ((x3.length : Int) - 1)) : Int).toNat) t359 x5)) else (none)) else (none)) else (some (x3, x4))) else (none)) else (none)) else (none)) else (none)) else (some (x3, x4))
def impl_WordCanon.f (k : Nat) (l0_0 : List Int) (l0_1 : List Int) : Option (List Int × List Int) := (impl_isRight.f k l0_0 l0_1).bind fun t332 => (if t332 = true then ((slices_Clone_int_int.f l0_0).bind fun t333 => ((impl_period.f k l0_1).bind fun t336 => (if 0 ≤ t336 then (if t336 ≤ (l0_1.length : Int) then ((slices_Clone_int_int.f (l0_1.take (t336 : Int).toNat)).bind fun t338 => (impl_WordCanon.l0 k t333 t338 (wrap64 ((t338.length : Int) - 1)))) else (none)) else (none)))) else (some (([] : List Int), ([] : List Int))))
theorem impl_WordCanon.mono_l : ∀ k, (∀ y0 y1 y2, LeO (impl_WordCanon.l0 k y0 y1 y2) (impl_WordCanon.l0 (k + 1) y0 y1 y2))
 | 0 => fun _ _ _ r h => by simp [impl_WordCanon.l0] at h
 | k + 1 => by
  have ih0 := impl_WordCanon.mono_l k
  ·intro y0 y1 y2
   unfold impl_WordCanon.l0
   repeat' first
   | (with_reducible exact ih0 _ _ _)
   | (with_reducible exact impl_isRight.mono _ _ _)
   | (with_reducible exact impl_period.mono _ _)
   | (with_reducible exact slices_Concat_int_int.mono _ _)
   | (with_reducible exact LeO.refl _)
   | (with_reducible exact LeO.none _)
   | (with_reducible refine LeO.ite ?_ ?_)
   | (with_reducible refine LeO.bind ?_ (fun _ => ?_))
   | exact ih0 _ _ _
   | exact impl_isRight.mono _ _ _
   | exact impl_period.mono _ _
   | exact slices_Concat_int_int.mono _ _
   | exact LeO.none _
   | refine LeO.ite ?_ ?_
   | refine LeO.bind ?_ (fun _ => ?_)
theorem impl_WordCanon.mono : ∀ a0 a1 k, LeO (impl_WordCanon.f k a0 a1) (impl_WordCanon.f (k + 1) a0 a1) := by
 intro a0 a1 k
 have ih0 := impl_WordCanon.mono_l k
 unfold impl_WordCanon.f
 repeat' first
   | (with_reducible exact ih0 _ _ _)
   | (with_reducible exact impl_isRight.mono _ _ _)
   | (with_reducible exact impl_period.mono _ _)
   | (with_reducible exact slices_Concat_int_int.mono _ _)
   | (with_reducible exact LeO.refl _)
   | (with_reducible exact LeO.none _)
   | (with_reducible refine LeO.ite ?_ ?_)
   | (with_reducible refine LeO.bind ?_ (fun _ => ?_))
   | exact ih0 _ _ _
   | exact impl_isRight.mono _ _ _
   | exact impl_period.mono _ _
   | exact slices_Concat_int_int.mono _ _
   | exact LeO.none _
   | refine LeO.ite ?_ ?_
   | refine LeO.bind ?_ (fun _ => ?_)
def impl_WordCanon.T4 : Bool × List (List Nat × List Nat) := (true, [([], []), ([0], [0]), ([], []), ([2], [2]), ([3], [3]), ([1, 4], [1, 4]), ([5, 4], [5]), ([6, 6, 0, 1, 2, 3, 4, 5, 6], [6])])
def impl_WordCanon.B4 : List Nat := [0, 1, 0, 4, 12, 31, 63, 127]
theorem impl_WordCanon.tab4 : rtab .any (opsOf Try.f6 4) = impl_WordCanon.T4 := by kernel_rfl
theorem impl_WordCanon.bits4 : waitsOk impl_WordCanon.T4.2 impl_WordCanon.B4 = true := by kernel_rfl
def impl_WordCanon.T6 : Bool × List (List Nat × List Nat) := (true, [([], []), ([0], [0]), ([1], [1]), ([2], [2]), ([3], [3]), ([3], [3]), ([5, 3], [3, 5]), ([6, 3], [3, 6]), ([4, 7, 3], [3, 4, 7]), ([8, 3], [3, 8]), ([3], [3]), ([3], [3]), ([10, 11, 3], [3, 10, 11]), ([12, 3], [3, 12]), ([9, 13, 3], [3, 9, 13]), ([3, 14], [3, 14])])
def impl_WordCanon.B6 : List Nat := [0, 1, 3, 7, 15, 15, 47, 111, 255, 511, 15, 15, 3087, 7183, 16383, 32767]
theorem impl_WordCanon.tab6 : rtab .any (opsOf Try.f6 6) = impl_WordCanon.T6 := by kernel_rfl
theorem impl_WordCanon.bits6 : waitsOk impl_WordCanon.T6.2 impl_WordCanon.B6 = true := by kernel_rfl
def impl_WordCanon.T8 : Bool × List (List Nat × List Nat) := (true, [([], []), ([], []), ([0, 1], [0, 1]), ([], []), ([], []), ([3, 4], [3, 4]), ([2, 5], [2, 5]), ([6], [6]), ([7, 7, 0, 1, 2, 3, 4, 5, 6, 7], [0, 3, 7])])
def impl_WordCanon.B8 : List Nat := [0, 0, 3, 0, 0, 24, 63, 127, 255]
theorem impl_WordCanon.tab8 : rtab .any (opsOf Try.f6 8) = impl_WordCanon.T8 := by kernel_rfl
theorem impl_WordCanon.bits8 : waitsOk impl_WordCanon.T8.2 impl_WordCanon.B8 = true := by kernel_rfl
open Go.Proofs.Ytbdcchbhelehcaa.Short2 in
set_option maxHeartbeats 8000000 in
set_option maxRecDepth 100000 in
theorem impl_WordCanon.calls (k : Nat) (A0_0 : Option Addr) (c0_0 : Nat) (l0_0 : List Int) (A0_1 : Option Addr) (c0_1 : Nat) (l0_1 : List Int) (r1 : List Int) (r2 : List Int) (w : World) (hr0_0 : Kd.C (Kd.int .i64) w A0_0 l0_0.length l0_0) (hc0_0 : l0_0.length ≤ c0_0) (hr0_1 : Kd.C (Kd.int .i64) w A0_1 l0_1.length l0_1) (hc0_1 : l0_1.length ≤ c0_1) (h : impl_WordCanon.f k l0_0 l0_1 = some (r1, r2)) :
  Calls Try.prog 6 #[.agg #[.slice A0_0 l0_0.length c0_0, .slice A0_1 l0_1.length c0_1]] w fun e w' => ∃ v0_ v1_ : Value, e = .returned (.agg #[v0_, v1_]) ∧ Kd.R (Kd.int .i64) 3 w' w.heap.size (fun k_ => some k_ ≠ (v1_ : Value).ownBlock) v0_ r1 ∧ Kd.R (Kd.int .i64) 3 w' w.heap.size (fun k_ => some k_ ≠ (v0_ : Value).ownBlock) v1_ r2 ∧ Below w.heap.size w w' := by
 have hu26 := Try.underlying26; have HR0_0 := Aside0.mk hr0_0; have HC0_0 := Aside0.mk hc0_0; clear hr0_0 hc0_0; have HR0_1 := Aside0.mk hr0_1; have HC0_1 := Aside0.mk hc0_1; clear hr0_1 hc0_1; have HB := Aside0.mk (Below.refl w.heap.size w); have H : ((impl_isRight.f k l0_0 l0_1).bind fun aJ => (if aJ = true then ((slices_Clone_int_int.f l0_0).bind fun am => ((impl_period.f k l0_1).bind fun ac => (if 0 ≤ ac then (if ac ≤ (l0_1.length : Int) then ((slices_Clone_int_int.f (l0_1.take (ac : Int).toNat)).bind fun ad => (impl_WordCanon.l0 k am ad (wrap64 ((ad.length : Int) - 1)))) else (none)) else (none)))) else (some (([] : List Int), ([] : List Int))))) = some (r1, r2) := h; clear h; replace H := bI H; obtain ⟨aJ, bC, H⟩ := H; replace H : (if aJ = true then ((slices_Clone_int_int.f l0_0).bind fun am => ((impl_period.f k l0_1).bind fun ac => (if 0 ≤ ac then (if ac ≤ (l0_1.length : Int) then ((slices_Clone_int_int.f (l0_1.take (ac : Int).toNat)).bind fun ad => (impl_WordCanon.l0 k am ad (wrap64 ((ad.length : Int) - 1)))) else (none)) else (none)))) else (some (([] : List Int), ([] : List Int)))) = some (r1, r2) := H; have A2 := Aside0.mk bC; clear bC
 by_cases c3 : aJ = true
 ·subst c3
  have H1 : ((slices_Clone_int_int.f l0_0).bind fun am => ((impl_period.f k l0_1).bind fun ac => (if 0 ≤ ac then (if ac ≤ (l0_1.length : Int) then ((slices_Clone_int_int.f (l0_1.take (ac : Int).toNat)).bind fun ad => (impl_WordCanon.l0 k am ad (wrap64 ((ad.length : Int) - 1)))) else (none)) else (none)))) = some (r1, r2) := by rw [if_pos rfl] at H; exact H
  clear H; have H := H1; clear H1; replace H := bI H; obtain ⟨am, bD, H⟩ := H; replace H : ((impl_period.f k l0_1).bind fun ac => (if 0 ≤ ac then (if ac ≤ (l0_1.length : Int) then ((slices_Clone_int_int.f (l0_1.take (ac : Int).toNat)).bind fun ad => (impl_WordCanon.l0 k am ad (wrap64 ((ad.length : Int) - 1)))) else (none)) else (none))) = some (r1, r2) := H; have A4 := Aside0.mk bD; clear bD; replace H := bI H; obtain ⟨ac, bE, H⟩ := H; replace H : (if 0 ≤ ac then (if ac ≤ (l0_1.length : Int) then ((slices_Clone_int_int.f (l0_1.take (ac : Int).toNat)).bind fun ad => (impl_WordCanon.l0 k am ad (wrap64 ((ad.length : Int) - 1)))) else (none)) else (none)) = some (r1, r2) := H; have A5 := Aside0.mk bE; clear bE
  by_cases c6 : 0 ≤ ac
  ·rw [if_pos c6] at H; have bG := eq_true c6; have bH : decide (0 ≤ ac) = true := decide_eq_true c6; clear c6
   by_cases c7 : ac ≤ (l0_1.length : Int)
   ·rw [if_pos c7] at H; have bJ := eq_true c7; have bK : decide (ac ≤ (l0_1.length : Int)) = true := decide_eq_true c7; clear c7; replace H := bI H; obtain ⟨ad, bF, H⟩ := H; replace H : (impl_WordCanon.l0 k am ad (wrap64 ((ad.length : Int) - 1))) = some (r1, r2) := H; have A8 := Aside0.mk bF; clear bF; have H' := Aside0.mk H; clear H
    go_enter Try.func6, Try.ntmps6
    try go_wp2_with (first | ((with_reducible refine gate_dst (N := 1) rfl ?_); (try (refine gate_guard (by rfl) ?_; dsimp only)); refine bx_ 1 #[.slice A0_0 l0_0.length c0_0, .slice A0_1 l0_1.length c0_1] 26 ?_; intro ah hg w9 hbox hb; have aa := Aside0.mk (hbox); have bs := xG HB hg; have bt := xG HB hg; replace HB := xS HB hb; clear hb hbox hg) | ((with_reducible refine gate_dst (N := 2) rfl ?_); (try (refine gate_guard (by rfl) ?_; dsimp only)); refine bx_ 2 #[.slice none 0 0, .slice none 0 0] 26 ?_; intro ag hg cQ hbox hb; have ab := Aside0.mk (hbox); have bu := xG HB hg; have bv := xG HB hg; replace HB := xS HB hb; have aw := xN aa hg; have ax := xM aa hg; replace aa := xB aa hb; clear hb hbox hg; obtain ⟨cm, cn⟩ := nn aw; obtain ⟨aZ, ba, bb, bc⟩ := cz2 aa) | ((with_reducible refine gate_callee (f := 23) rfl ?_); refine gl_ (some 7) Try.func23 #[.agg #[.slice A0_0 l0_0.length c0_0, .slice A0_1 l0_1.length c0_1]] ?_; (with_reducible refine (impl_isRight.calls k _ _ l0_0 _ _ l0_1 true _ ?side1 ?side2 ?side3 ?side4 A2.out).mono ?_); (case side1 => exact zC (Kd.C_below HR0_0.out HB.out)); (case side2 => exact HC0_0.out); (case side3 => exact zC (Kd.C_below HR0_1.out HB.out)); (case side4 => exact HC0_1.out); rintro e cR ⟨rfl, hb⟩; refine ⟨_, rfl, ?_⟩; replace aa := xB aa hb; replace ab := xB ab hb; replace HB := xS HB hb; (try clear hb); (try clear hb2); (try clear hk); (try clear hi); obtain ⟨bd, be, bf, bg⟩ := cz2 aa) | ((with_reducible refine gate_callee (f := 24) rfl ?_); refine gl_ (some 12) Try.func24 #[.slice A0_0 l0_0.length c0_0] ?_; (with_reducible refine (slices_Clone_int_int.calls _ _ l0_0 am _ ?side1 ?side2 A4.out).mono ?_); (case side1 => exact zC (Kd.C_below HR0_0.out HB.out)); (case side2 => exact HC0_0.out); rintro e ci ⟨cG, rfl, ho0, hb⟩; refine ⟨_, rfl, ?_⟩; have ar := rW0 ho0 HB; replace aa := xB aa hb; replace ab := xB ab hb; replace HB := xS HB hb; (try clear hb); (try clear hb2); (try clear hk); (try clear hi); (try clear ho0)))
    replace ar := Aside0.mk (Kd.R_drew ar.out); replace aa := Aside0.mk (blk_drew aa.out); replace ab := Aside0.mk (blk_drew ab.out); replace HB := Aside0.mk (below_drew1 HB.out); refine start_ (n := 8) (S := fun w' => w'.cell? ⟨ah, 0, none⟩ = some (.slice A0_0 l0_0.length c0_0) ∧ w'.cell? ⟨ah, 1, none⟩ = some (.slice A0_1 l0_1.length c0_1)) (ds := []) bl0 (by kernel_rfl) rfl rfl ⟨b1 aa 0, b1 aa 1⟩ (fun hHeld => ?_); refine with_tabW impl_WordCanon.tab4 impl_WordCanon.bits4 (fun HT_ HW_ => ?_); generalize ci.drew = cS at ar aa ab HB hHeld ⊢
    refine pv_ 0 (some 13) bl1 HT_ ?_
    refine pv_ 2 (some 15) bl2 HT_ ?_
    refine tk_ 1 (some 14) bl3 HT_ HW_ hHeld ?_
    refine tk_ 3 (some 16) bl4 HT_ HW_ hHeld ?_
    refine on_ 4 (some 17) bl5 HT_ (fun K hK => ?_); refine gs_ Try.func25 #[.slice A0_1 l0_1.length c0_1] ?_
    with_reducible refine (impl_period.calls k _ _ l0_1 ac _ ?side1 ?side2 A5.out).mono ?_
    (case side1 => exact zC (Kd.C_below HR0_1.out HB.out))
    (case side2 => exact HC0_1.out)
    rintro e w' ⟨rfl, ⟨nd, rfl⟩⟩; refine ⟨_, rfl, ?_⟩; obtain ⟨i017, hi017, _, hsz17, _⟩ := info_parts info3; obtain ⟨hcut17, hA17, hC17⟩ := print_take_of (P := Try.prog) (Value.int .i64) 0 24 3 .i64 Try.underlying24 hi017 hsz17 A0_1 c0_1 l0_1 ac (oD) (oD) HC0_1.out; have HR337 := Aside0.mk (Kd.C_of_reads (h1 := fun _ => rfl) (hA17 _ (Kd.reads_of_C HR0_1.out))); have HC337 := Aside0.mk hC17; clear hA17 hC17 hi017 hsz17; refine hK.out _ _ ⟨b1 aa 0, b1 aa 1⟩ (fun hHeld => ?_); clear hK K; refine nr_ (some 17) ?_
    refine pv_ 5 (some 18) bl6 HT_ ?_
    refine on_ 6 (some 19) bl7 HT_ (fun K hK => ?_); refine goes_ Try.func24 (by kernel_rfl) rfl #[.slice A0_1 (l0_1.take (ac : Int).toNat).length c0_1] (by rfl) rfl rfl (by (try simp only [m3]); first | done | (rw [show (l0_1.take (ac : Int).toNat).length = ac.toNat from (by rw [List.length_take]; have h_ : (ac : Int) ≤ (l0_1.length : Int) := oD; omega)] <;> rfl) | rfl | (simp only [d2]; rfl)) ?_
    with_reducible refine (slices_Clone_int_int.calls _ _ (l0_1.take (ac : Int).toNat) ad _ ?side1 ?side2 A8.out).mono ?_
    (case side1 => repeat (first | exact (Kd.C_below HR337.out (zS HB.out)) | (with_reducible refine Kd.C_alloc ?_ _) | (with_reducible refine Kd.C_drewN ?_ _) | (with_reducible refine Kd.C_drew ?_)))
    (case side2 => exact HC337.out)
    rintro e cU ⟨cH, rfl, ho0, hb⟩; refine ⟨_, rfl, ?_⟩; have aO := rW1 ho0 ar HB; replace ar := xE ar ho0 hb; replace aa := xB aa hb; replace ab := xB ab hb; replace HB := xS HB hb
    (try clear hb)
    (try clear hb2)
    (try clear hk)
    (try clear hi)
    (try clear ho0)
    refine hK.out _ _ ⟨b1 aa 0, b1 aa 1⟩ (fun hHeld => ?_); clear hK K; refine nr_ (some 19) ?_
    refine pv_ 7 (some 4) bl8 HT_ ?_
    refine done_ (done_of HT_.out (by kernel_rfl)) ?_; obtain ⟨cI, cJ, bL⟩ := Kd.R_slice aO.out; subst bL
    try go_wp2
    go_loopg [3, 4] k (fun kq v3 v4 w' => ∃ (x3_1 : List Int) (x4_1 : List Int), Aside0 (impl_WordCanon.l0 kq x3_1 x4_1 (wrap64 ((ad.length : Int) - 1)) = some (r1, r2)) ∧ Aside0 (kq ≤ k) ∧ Aside0 (Kd.R (Kd.int .i64) 3 w' w.heap.size (fun k_ => some k_ ≠ (v4 : Value).ownBlock) v3 x3_1) ∧ Aside0 (Kd.R (Kd.int .i64) 3 w' w.heap.size (fun k_ => some k_ ≠ (v3 : Value).ownBlock) v4 x4_1) ∧ Aside0 (w'.heap[ah]? = some (.cells #[(.slice A0_0 l0_0.length c0_0), (.slice A0_1 l0_1.length c0_1)] 26 (0, 0))) ∧ Aside0 (w'.heap[ag]? = some (.cells #[(.slice none 0 0), (.slice none 0 0)] 26 (0, 0))) ∧ Aside0 (Below w.heap.size w w'))
    case atStart => exact ⟨(am), (ad), H', ⟨Nat.le_refl _⟩, ⟨rM ar (fun _ hk => hk.2)⟩, ⟨rM aO (fun _ hk => hk.2)⟩, ⟨zB aa.out⟩, ⟨zB ab.out⟩, ⟨zS HB.out⟩⟩
    case round =>
     clear H'
     try clear c1
     try clear c2
     try clear p2
     try clear c3
     try clear c6
     try clear bG
     try clear bH
     try clear p6
     try clear c7
     try clear bJ
     try clear bK
     try clear cV
     try clear aZ ba
     try clear bd be
     try clear bb bc
     try clear bf bg
     obtain ⟨x3_1, x4_1, HA, HK1, af, ae, aa, ab, HB⟩ := hrel
     cases gk with
     | zero => exact absurd HA.out (by simp [impl_WordCanon.l0])
     | succ k1 =>
      have H := HA.out; clear HA; simp only [impl_WordCanon.l0] at H
      by_cases aI : (x3_1.length : Int) > 0
      ·rw [if_pos aI] at H; have bw : decide (0 < (x3_1.length : Int)) = true := decide_eq_true aI; have bx : decide (0 < x3_1.length) = true := decide_eq_true (by omega); clear aI; obtain ⟨ji21, hji21⟩ : ∃ j_ : Int, (wrap64 ((x3_1.length : Int) - 1)) = j_ := ⟨_, rfl⟩
       replace H : (if 0 ≤ (ji21) then (if (ji21) < (x3_1.length : Int) then (if 0 ≤ (wrap64 ((ad.length : Int) - 1)) then (if (wrap64 ((ad.length : Int) - 1)) < (x4_1.length : Int) then (if (rd x3_1 (ji21)) = (rd x4_1 (wrap64 ((ad.length : Int) - 1))) then (if (ji21) ≤ (x3_1.length : Int) then (if (wrap64 ((ad.length : Int) - 1)) ≤ (x4_1.length : Int) then ((slices_Concat_int_int.f k1 (([(x4_1.drop ((wrap64 ((ad.length : Int) - 1)) : Int).toNat), (x4_1.take ((wrap64 ((ad.length : Int) - 1)) : Int).toNat)] : List (List Int)))).bind fun ai => (impl_WordCanon.l0 k1 (x3_1.take ((ji21) : Int).toNat) ai (wrap64 ((ad.length : Int) - 1)))) else (none)) else (none)) else (some (x3_1, x4_1))) else (none)) else (none)) else (none)) else (none)) = some (r1, r2) := by first | (rw [hji21] at H; exact H) | (simp only [hji21] at H ⊢; exact H)
       have hji21w : (IntKind.i64.wrap ((x3_1.length : Int) - 1)) = ji21 := (i64_w _).trans hji21
       by_cases aP : 0 ≤ (ji21)
       ·rw [if_pos aP] at H; have co : decide (0 ≤ (ji21)) = true := decide_eq_true aP; clear aP
        by_cases aQ : (ji21) < (x3_1.length : Int)
        ·rw [if_pos aQ] at H; have cp : decide ((ji21) < (x3_1.length : Int)) = true := decide_eq_true aQ; clear aQ; obtain ⟨ji24, hji24⟩ : ∃ j_ : Int, (wrap64 ((ad.length : Int) - 1)) = j_ := ⟨_, rfl⟩
         replace H : (if 0 ≤ (ji24) then (if (ji24) < (x4_1.length : Int) then (if (rd x3_1 (ji21)) = (rd x4_1 (ji24)) then (if (ji21) ≤ (x3_1.length : Int) then (if (ji24) ≤ (x4_1.length : Int) then ((slices_Concat_int_int.f k1 (([(x4_1.drop ((ji24) : Int).toNat), (x4_1.take ((ji24) : Int).toNat)] : List (List Int)))).bind fun ai => (impl_WordCanon.l0 k1 (x3_1.take ((ji21) : Int).toNat) ai (ji24))) else (none)) else (none)) else (some (x3_1, x4_1))) else (none)) else (none)) = some (r1, r2) := by first | (rw [hji24] at H; exact H) | (simp only [hji24] at H ⊢; exact H)
         have hji24w : (IntKind.i64.wrap ((ad.length : Int) - 1)) = ji24 := (i64_w _).trans hji24
         by_cases aR : 0 ≤ (ji24)
         ·rw [if_pos aR] at H; have cq : decide (0 ≤ (ji24)) = true := decide_eq_true aR; clear aR
          by_cases aS : (ji24) < (x4_1.length : Int)
          ·rw [if_pos aS] at H; have cr : decide ((ji24) < (x4_1.length : Int)) = true := decide_eq_true aS; clear aS
           by_cases aG : (rd x3_1 (ji21)) = (rd x4_1 (ji24))
           ·rw [if_pos aG] at H; have bz : ((rd x3_1 (ji21)) == (rd x4_1 (ji24))) = true := beq_iff_eq.mpr aG; have bA : ((rd x3_1 (ji21)) != (rd x4_1 (ji24))) = false := bne_eq_false_iff_eq.mpr aG; clear aG
            by_cases aK : (ji21) ≤ (x3_1.length : Int)
            ·rw [if_pos aK] at H; have ct := eq_true aK; have cu : decide ((ji21) ≤ (x3_1.length : Int)) = true := decide_eq_true aK; clear aK; obtain ⟨aj, aB⟩ : ∃ y_ : List Int, y_ = (x3_1.take ((ji21) : Int).toNat) := ⟨_, rfl⟩
             replace H : (if (ji24) ≤ (x4_1.length : Int) then ((slices_Concat_int_int.f k1 (([(x4_1.drop ((ji24) : Int).toNat), (x4_1.take ((ji24) : Int).toNat)] : List (List Int)))).bind fun ai => (impl_WordCanon.l0 k1 aj ai (ji24))) else (none)) = some (r1, r2) := by first | (rw [aB]; with_reducible exact H) | (have H2_ := (Option.bind_some _ _).symm.trans H; rw [aB]; with_reducible exact H2_) | (have H2_ := (Option.bind_some _ _).symm.trans H; with_reducible exact H2_) | with_reducible exact H | (rw [aB]; exact H) | exact H
             have aT := Aside0.mk aB; clear aB; have cv := eq_true (oD : 0 ≤ (ji24))
             by_cases aL : (ji24) ≤ (x4_1.length : Int)
             ·rw [if_pos aL] at H; have cw := eq_true aL; have cx : decide ((ji24) ≤ (x4_1.length : Int)) = true := decide_eq_true aL; clear aL; obtain ⟨ak, aC⟩ : ∃ y_ : List Int, y_ = (x4_1.drop ((ji24) : Int).toNat) := ⟨_, rfl⟩
              replace H : ((slices_Concat_int_int.f k1 (([ak, (x4_1.take ((ji24) : Int).toNat)] : List (List Int)))).bind fun ai => (impl_WordCanon.l0 k1 aj ai (ji24))) = some (r1, r2) := by first | (rw [aC]; with_reducible exact H) | (have H2_ := (Option.bind_some _ _).symm.trans H; rw [aC]; with_reducible exact H2_) | (have H2_ := (Option.bind_some _ _).symm.trans H; with_reducible exact H2_) | with_reducible exact H | (rw [aC]; exact H) | exact H
              have aU := Aside0.mk aC; clear aC; have cy := eq_true (oD : 0 ≤ (ji24)); have cz := eq_true (oD : (ji24) ≤ (x4_1.length : Int)); obtain ⟨ao, aD⟩ : ∃ y_ : List Int, y_ = (x4_1.take ((ji24) : Int).toNat) := ⟨_, rfl⟩
              replace H : ((slices_Concat_int_int.f k1 (([ak, ao] : List (List Int)))).bind fun ai => (impl_WordCanon.l0 k1 aj ai (ji24))) = some (r1, r2) := by first | (rw [aD]; with_reducible exact H) | (have H2_ := (Option.bind_some _ _).symm.trans H; rw [aD]; with_reducible exact H2_) | (have H2_ := (Option.bind_some _ _).symm.trans H; with_reducible exact H2_) | with_reducible exact H | (rw [aD]; exact H) | exact H
              have aV := Aside0.mk aD; clear aD; obtain ⟨aM, aE⟩ : ∃ y_ : List (List Int), y_ = (([ak, ao] : List (List Int))) := ⟨_, rfl⟩
              replace H : ((slices_Concat_int_int.f k1 aM).bind fun ai => (impl_WordCanon.l0 k1 aj ai (ji24))) = some (r1, r2) := by first | (rw [aE]; with_reducible exact H) | (have H2_ := (Option.bind_some _ _).symm.trans H; rw [aE]; with_reducible exact H2_) | (have H2_ := (Option.bind_some _ _).symm.trans H; with_reducible exact H2_) | with_reducible exact H | (rw [aE]; exact H) | exact H
              have aW := Aside0.mk aE; clear aE; replace H := bI H; obtain ⟨ai, bh, H⟩ := H; replace H : (impl_WordCanon.l0 k1 aj ai (ji24)) = some (r1, r2) := H; have cj := Aside0.mk bh; clear bh; have H' := Aside0.mk H; clear H
              try go_wp2
              replace af := Aside0.mk (Kd.R_drew af.out); replace ae := Aside0.mk (Kd.R_drew ae.out); replace aa := Aside0.mk (blk_drew aa.out); replace ab := Aside0.mk (blk_drew ab.out); replace HB := Aside0.mk (below_drew1 HB.out); obtain ⟨cK, ay, bi⟩ := Kd.R_slice af.out
              (first | subst bi | (injection bi with f1_ f2_ f3_; have f4_ := f1_.symm; have f5_ := f3_.symm; clear f1_ f2_ f3_; subst f4_; subst f5_))
              have az : 0 ≤ ((ji21) : Int) := oD; have q341 : (ji21) < (x3_1.length : Int) := oD; obtain ⟨ad341, e341, ap⟩ := Kd.at_int (Kd.R_reads' af.out).2.2 (ji21) az q341
              cases e341
              replace az := eq_true az; replace q341 := eq_true q341; obtain ⟨cL, an, bj⟩ := Kd.R_slice ae.out
              (first | subst bj | (injection bj with f1_ f2_ f3_; have f4_ := f1_.symm; have f5_ := f3_.symm; clear f1_ f2_ f3_; subst f4_; subst f5_))
              have aA : 0 ≤ ((ji24) : Int) := oD; have q342 : (ji24) < (x4_1.length : Int) := oD; obtain ⟨ad342, e342, aq⟩ := Kd.at_int (Kd.R_reads' ae.out).2.2 (ji24) aA q342
              cases e342
              replace aA := eq_true aA; replace q342 := eq_true q342; refine start_ (n := 16) (S := fun w' => w'.cell? (ad341.add ((ji21)).toNat) = some (.int .i64 (rd x3_1 (ji21))) ∧ w'.cell? (ad342.add ((ji24)).toNat) = some (.int .i64 (rd x4_1 (ji24)))) (ds := []) bl9 (by kernel_rfl) rfl rfl ⟨ap, aq⟩ (fun hHeld => ?_); refine with_tabW impl_WordCanon.tab6 impl_WordCanon.bits6 (fun HT_ HW_ => ?_); generalize wr.drew = ck at af ae aa ab HB ap aq hHeld ⊢
              refine pv_ 0 (some 23) bl10 HT_ ?_
              refine pv_ 1 (some 24) bl11 HT_ ?_
              refine pv_ 2 (some 25) bl12 HT_ ?_
              refine pv_ 3 (some 26) bl13 HT_ ?_
              refine pv_ 4 (some 27) bl14 HT_ ?_
              refine pv_ 5 (some 28) bl15 HT_ ?_
              refine pv_ 6 (some 29) bl16 HT_ ?_
              refine pv_ 7 (some 30) bl17 HT_ ?_
              refine pv_ 8 (some 31) bl18 HT_ ?_
              refine pv_ 10 (some 33) bl19 HT_ ?_
              refine pv_ 11 (some 34) bl20 HT_ ?_
              refine pv_ 12 (some 35) bl21 HT_ ?_
              refine tk_ 9 (some 32) bl22 HT_ HW_ hHeld ?_
              refine tk_ 13 (some 36) bl23 HT_ HW_ hHeld ?_
              refine pv_ 14 (some 37) bl24 HT_ ?_
              refine pv_ 15 (some 38) bl25 HT_ ?_
              refine done_ (done_of HT_.out (by kernel_rfl)) ?_; have q37 : ((ji21) : Int) ≤ ((x3_1.length : Int) : Int) := oD; obtain ⟨i037, hi037, _, hsz37, _⟩ := info_parts info3; have hcut37 := cut_to (P := Try.prog) 24 3 .i64 Try.underlying24 hi037 (some ad341) x3_1.length ay (ji21) (oD) q37 (Kd.R_reads' af.out).2.1; have hr37 := Kd.R_take (m := ((ji21) : Int).toNat) af.out (by omega); have bk : aj.length = ((ji21) : Int).toNat := (by rw [aT.out, List.length_take]; omega); rw [← aT.out] at hr37; rw [← bk] at hr37 hcut37; clear bk hi037 hsz37 af; have al := Aside0.mk hr37; clear hr37; replace q37 := eq_true q37
              try go_wp2
              replace al := Aside0.mk (Kd.R_drew al.out); replace ae := Aside0.mk (Kd.R_drew ae.out); replace aa := Aside0.mk (blk_drew aa.out); replace ab := Aside0.mk (blk_drew ab.out); replace HB := Aside0.mk (below_drew1 HB.out); have q39 : ((ji24) : Int) ≤ ((x4_1.length : Int) : Int) := oD; obtain ⟨i039, hi039, _, hsz39, _⟩ := info_parts info3; have hroom39 : x4_1.length ≤ an := (Kd.R_reads' ae.out).2.1; have hC39 : Kd.F (Kd.int .i64) _ _ (some ad342) x4_1.length x4_1 := (Kd.V_at (base := w.heap.size) (Kd.R_V (Kd.R_types (Kd.R_types (ae.out) aa.out (by decide)) ab.out (by decide)))).2.2; have q039 : (0 : Int) ≤ ((ji24) : Int) := oD; have hcut39 := cut_from (P := Try.prog) 24 3 .i64 Try.underlying24 hi039 1 hsz39 (some ad342) x4_1.length an (ji24) q039 q39; have hr39 := Kd.F_cut (m := ((ji24) : Int).toNat) (c := an) hC39 (by omega) hroom39; obtain ⟨aX, hA39⟩ : ∃ A1, A1 = (if an = ((ji24) : Int).toNat then (some ad342) else ((some ad342) : Option Addr).map (·.add (((ji24) : Int).toNat * 1))) := ⟨_, rfl⟩; obtain ⟨aY, hc39⟩ : ∃ c1, c1 = an - ((ji24) : Int).toNat := ⟨_, rfl⟩; have aH : ak.length = x4_1.length - ((ji24) : Int).toNat := (by rw [aU.out, List.length_drop] <;> omega); rw [show (x4_1).drop ((ji24) : Int).toNat = ak from aU.out.symm] at hr39; replace hr39 : Kd.F (Kd.int .i64) _ _ aX ak.length ak := (by rw [hA39]; exact hr39); rw [← aH, ← hA39, ← hc39] at hcut39; have au := Aside0.mk (show Kd.V (Kd.int .i64) 3 _ w.heap.size _ (.slice aX ak.length aY) ak from Kd.V_mk (by rw [aH, hc39]; exact Nat.sub_le_sub_right hroom39 _) hr39); have HC350 := Aside0.mk (show ak.length ≤ aY from by rw [aH, hc39]; exact Nat.sub_le_sub_right hroom39 _); clear hr39 hC39 hroom39 hi039 hsz39 hc39; have KY39 := Aside0.mk aH; have KA39 := Aside0.mk hA39; clear aH hA39; replace q39 := eq_true q39; have q40 : ((ji24) : Int) ≤ ((x4_1.length : Int) : Int) := oD; obtain ⟨i040, hi040, _, hsz40, _⟩ := info_parts info3; have hroom40 : x4_1.length ≤ an := (Kd.R_reads' ae.out).2.1; have hC40 : Kd.F (Kd.int .i64) _ _ (some ad342) x4_1.length x4_1 := (Kd.V_at (base := w.heap.size) (Kd.R_V (Kd.R_types (Kd.R_types (ae.out) aa.out (by decide)) ab.out (by decide)))).2.2; have hcut40 := cut_to (P := Try.prog) 24 3 .i64 Try.underlying24 hi040 (some ad342) x4_1.length an (ji24) (oD) q40 hroom40; have hr40 := Kd.F_take (m := ((ji24) : Int).toNat) hC40 (by omega); have aN : ao.length = ((ji24) : Int).toNat := (by rw [aV.out, List.length_take]; omega); rw [← aV.out] at hr40; rw [← aN] at hcut40
              have av := Aside0.mk (show Kd.V (Kd.int .i64) 3 _ w.heap.size _ (.slice (some ad342) ao.length an) ao from Kd.V_mk (by omega) hr40); have HC355 := Aside0.mk (show ao.length ≤ an from by omega); clear hr40 hC40 hroom40 hi040 hsz40; have KY40 := Aside0.mk aN; clear aN; replace q40 := eq_true q40; refine start_ (n := 9) (S := fun w' => True) (ds := []) bl26 (by kernel_rfl) rfl rfl trivial (fun hHeld => ?_); refine with_tabW impl_WordCanon.tab8 impl_WordCanon.bits8 (fun HT_ HW_ => ?_); generalize ck.drew = cl at al ae aa ab HB au av hHeld ⊢
              refine pv_ 0 (some 44) bl27 HT_ ?_
              refine pv_ 1 (some 45) bl28 HT_ ?_
              refine pv_ 2 (some 46) bl29 HT_ ?_
              refine pv_ 3 (some 47) bl30 HT_ ?_
              refine pv_ 4 (some 48) bl31 HT_ ?_
              refine pv_ 5 (some 49) bl32 HT_ ?_
              refine on_ 6 (some 50) bl33 HT_ (fun K hK => ?_)
              refine Kd.N_lit_step (Kd.slice 3 (Kd.int .i64)) _ 24 ?hg (N' := 50) ?hd (xs := ([ak, ao] : List (List Int))) (inner := [.slice aX ak.length aY, .slice (some ad342) ao.length an]) (ok := (fun k_ => some k_ ≠ (.slice (some ad341) aj.length ay : Value).ownBlock ∧ k_ ≠ ah ∧ k_ ≠ ag)) (okp := (fun k_ => some k_ ≠ (.slice (some ad341) aj.length ay : Value).ownBlock ∧ k_ ≠ ah ∧ k_ ≠ ag)) ?hr ?hp (fun _ hk => hk) ((show ∀ k_, cl.heap.size ≤ k_ → (fun k_ => some k_ ≠ (.slice (some ad341) aj.length ay : Value).ownBlock ∧ k_ ≠ ah ∧ k_ ≠ ag) k_ from fun k_ hk => ⟨Kd.fresh' (Kd.R_lt (zR al.out)) k_ hk, Kd.freshB (g := ah) (o := .cells #[.slice A0_0 l0_0.length c0_0, .slice A0_1 l0_1.length c0_1] 26 (0, 0)) (zB aa.out) k_ hk, Kd.freshB (g := ag) (o := .cells #[.slice none 0 0, .slice none 0 0] 26 (0, 0)) (zB ab.out) k_ hk⟩) _ (Nat.le_refl _)) (Below.refl _ _) (Nat.le_refl _) (by simp) ?_; (case hd => rfl); (case hg => rfl); (case hr => first | (go_simp; done) | (go_simp; rfl)); (case hp => exact (Reps.one (show Kd.FK (Kd.slice 3 (Kd.int .i64)) _ _ ak [.slice aX ak.length aY] from (Kd.FK_slice_mk (Kd.V_reads' (Kd.V_mono (ok' := (fun k_ => some k_ ≠ (.slice (some ad341) aj.length ay : Value).ownBlock ∧ k_ ≠ ah ∧ k_ ≠ ag)) (au.out) (fun k_ hk => ⟨hk.1.1, ⟨hk.1.2, hk.2⟩⟩))).2.1 (Kd.V_F (Kd.V_mono (ok' := (fun k_ => some k_ ≠ (.slice (some ad341) aj.length ay : Value).ownBlock ∧ k_ ≠ ah ∧ k_ ≠ ag)) (au.out) (fun k_ hk => ⟨hk.1.1, ⟨hk.1.2, hk.2⟩⟩))))) (Reps.one (show Kd.FK (Kd.slice 3 (Kd.int .i64)) _ _ ao [.slice (some ad342) ao.length an] from (Kd.FK_slice_mk (Kd.V_reads' (Kd.V_mono (ok' := (fun k_ => some k_ ≠ (.slice (some ad341) aj.length ay : Value).ownBlock ∧ k_ ≠ ah ∧ k_ ≠ ag)) (av.out) (fun k_ hk => ⟨hk.1.1, ⟨hk.1.2, hk.2⟩⟩))).2.1 (Kd.V_F (Kd.V_mono (ok' := (fun k_ => some k_ ≠ (.slice (some ad341) aj.length ay : Value).ownBlock ∧ k_ ≠ ah ∧ k_ ≠ ag)) (av.out) (fun k_ hk => ⟨hk.1.1, ⟨hk.1.2, hk.2⟩⟩))))) (Reps.none _ _))))
              intro cM cW ho42 hb hg_ hnew_; clear hg_ hnew_
              (first | rw [← aW.out] at ho42 | (simp only [Int.reduceToNat] at ho42; rw [← aW.out] at ho42))
              replace al := xR al hb; replace ae := xR ae hb; replace au := Aside0.mk (Kd.V_elder' (by (with_reducible repeat (first | apply Kd.V_alloc | apply Kd.V_drewN | apply Kd.V_drew)); exact au.out) (Kd.N_base ho42) hb); replace av := Aside0.mk (Kd.V_elder' (by (with_reducible repeat (first | apply Kd.V_alloc | apply Kd.V_drewN | apply Kd.V_drew)); exact av.out) (Kd.N_base ho42) hb); have aF := Aside0.mk (Kd.N_lower ho42 (below_size (zS HB.out))); replace aa := xB aa hb; replace ab := xB ab hb; replace HB := xS HB hb; clear hb ho42; obtain ⟨bM, bN, bl⟩ := Kd.N_slice aF.out
              (first | subst bl | (injection bl with f1_ f2_ f3_; have f4_ := f1_.symm; have f5_ := f3_.symm; clear f1_ f2_ f3_; subst f4_; subst f5_))
              refine hK.out _ _ trivial (fun hHeld => ?_); clear hK K; refine nr_ (some 50) ?_
              refine on_ 7 (some 51) bl34 HT_ (fun K hK => ?_); refine gs_ Try.func26 #[.slice bM aM.length bN] ?_
              with_reducible refine (slices_Concat_int_int.calls k1 _ _ aM ai _ ?side1 ?side2 cj.out).mono ?_
              (case side1 => exact zC (Kd.N_reads' aF.out).2.2)
              (case side2 => exact (Kd.N_reads' aF.out).2.1)
              rintro e cX ⟨cN, rfl, ho0, hb⟩; refine ⟨_, rfl, ?_⟩; replace au := Aside0.mk (Kd.V_elder' (by (with_reducible repeat (first | apply Kd.V_alloc | apply Kd.V_drewN | apply Kd.V_drew)); exact au.out) (Kd.R_base ho0) hb); replace av := Aside0.mk (Kd.V_elder' (by (with_reducible repeat (first | apply Kd.V_alloc | apply Kd.V_drewN | apply Kd.V_drew)); exact av.out) (Kd.R_base ho0) hb); replace aF := Aside0.mk (Kd.N_elder' (by (with_reducible repeat (first | apply Kd.N_alloc | apply Kd.N_drewN | apply Kd.N_drew)); exact aF.out) (Kd.R_base ho0) hb); have bB := rW2 ho0 al ae HB; replace al := xE al ho0 hb; replace ae := xE ae ho0 hb; replace aa := xB aa hb; replace ab := xB ab hb; replace HB := xS HB hb
              (try clear hb)
              (try clear hb2)
              (try clear hk)
              (try clear hi)
              (try clear ho0)
              refine hK.out _ _ trivial (fun hHeld => ?_); clear hK K; refine nr_ (some 51) ?_
              refine pv_ 8 (some 4) bl35 HT_ ?_
              refine done_ (done_of HT_.out (by kernel_rfl)) ?_
              try go_wp2
              (first | go_roundg k1 | ((try simp only [← hji21]); (try simp only [← hji24]); go_roundg k1))
              case measure => have := HK1.out; omega
              case rel => exact ⟨(aj), (ai), (by first | exact H' | (have h_ := H'; (try simp only [← hji21] at h_); (try simp only [← hji21]); (try simp only [← hji24] at h_); (try simp only [← hji24]); exact h_)), ⟨by have := HK1.out; omega⟩, ⟨rM al (fun _ hk => hk.2)⟩, ⟨rM bB (fun _ hk => hk.1.2)⟩, ⟨zB aa.out⟩, ⟨zB ab.out⟩, ⟨zS HB.out⟩⟩
             ·rw [if_neg aL] at H; exact absurd H (by simp)
            ·rw [if_neg aK] at H; exact absurd H (by simp)
           ·rw [if_neg aG] at H; have bz : ((rd x3_1 (ji21)) == (rd x4_1 (ji24))) = false := beq_eq_false_iff_ne.mpr aG; have bA : ((rd x3_1 (ji21)) != (rd x4_1 (ji24))) = true := bne_iff_ne.mpr aG; simp only [Option.some.injEq, Prod.mk.injEq] at H; obtain ⟨rfl, rfl⟩ := H
            try go_wp2
            replace af := Aside0.mk (Kd.R_drew af.out); replace ae := Aside0.mk (Kd.R_drew ae.out); replace aa := Aside0.mk (blk_drew aa.out); replace ab := Aside0.mk (blk_drew ab.out); replace HB := Aside0.mk (below_drew1 HB.out); obtain ⟨cO, bm, bn⟩ := Kd.R_slice af.out
            (first | subst bn | (injection bn with f1_ f2_ f3_; have f4_ := f1_.symm; have f5_ := f3_.symm; clear f1_ f2_ f3_; subst f4_; subst f5_))
            have az : 0 ≤ ((ji21) : Int) := oD; have q341 : (ji21) < (x3_1.length : Int) := oD; obtain ⟨ad341, e341, ap⟩ := Kd.at_int (Kd.R_reads' af.out).2.2 (ji21) az q341
            cases e341
            replace az := eq_true az; replace q341 := eq_true q341; obtain ⟨cP, bO, bo⟩ := Kd.R_slice ae.out
            (first | subst bo | (injection bo with f1_ f2_ f3_; have f4_ := f1_.symm; have f5_ := f3_.symm; clear f1_ f2_ f3_; subst f4_; subst f5_))
            have aA : 0 ≤ ((ji24) : Int) := oD; have q342 : (ji24) < (x4_1.length : Int) := oD; obtain ⟨ad342, e342, aq⟩ := Kd.at_int (Kd.R_reads' ae.out).2.2 (ji24) aA q342
            cases e342
            replace aA := eq_true aA; replace q342 := eq_true q342; refine start_ (n := 16) (S := fun w' => w'.cell? (ad341.add ((ji21)).toNat) = some (.int .i64 (rd x3_1 (ji21))) ∧ w'.cell? (ad342.add ((ji24)).toNat) = some (.int .i64 (rd x4_1 (ji24)))) (ds := []) bl9 (by kernel_rfl) rfl rfl ⟨ap, aq⟩ (fun hHeld => ?_); refine with_tabW impl_WordCanon.tab6 impl_WordCanon.bits6 (fun HT_ HW_ => ?_); generalize wr.drew = cY at af ae aa ab HB ap aq hHeld ⊢
            refine pv_ 0 (some 23) bl10 HT_ ?_
            refine pv_ 1 (some 24) bl11 HT_ ?_
            refine pv_ 2 (some 25) bl12 HT_ ?_
            refine pv_ 3 (some 26) bl13 HT_ ?_
            refine pv_ 4 (some 27) bl14 HT_ ?_
            refine pv_ 5 (some 28) bl15 HT_ ?_
            refine pv_ 6 (some 29) bl16 HT_ ?_
            refine pv_ 7 (some 30) bl17 HT_ ?_
            refine pv_ 8 (some 31) bl18 HT_ ?_
            refine pv_ 10 (some 33) bl19 HT_ ?_
            refine pv_ 11 (some 34) bl20 HT_ ?_
            refine pv_ 12 (some 35) bl21 HT_ ?_
            refine tk_ 9 (some 32) bl22 HT_ HW_ hHeld ?_
            refine tk_ 13 (some 36) bl23 HT_ HW_ hHeld ?_
            refine pv_ 14 (some 37) bl24 HT_ ?_
            refine pv_ 15 (some 38) bl25 HT_ ?_
            refine done_ (done_of HT_.out (by kernel_rfl)) ?_; obtain ⟨cA, cB⟩ := nn ax; obtain ⟨bS, bT, bU, bV⟩ := cz2 ab
            try go_wp2
            refine bodyPost_ret (results_cell_row rfl _ _ ag 26 #[.slice (some ad341) x3_1.length bm, .slice (some ad342) x4_1.length bO] (0, 0) _ rfl (by (with_reducible repeat (first | refine blk_drewN ?_ _ | refine blk_drew ?_ | refine blk_alloc ?_ _)); refine blk_put (cs := #[.slice (some ad341) x3_1.length bm, .slice none 0 0]) ?_ 1 _ rfl; (with_reducible repeat (first | refine blk_drewN ?_ _ | refine blk_drew ?_ | refine blk_alloc ?_ _)); refine blk_put (cs := #[.slice none 0 0, .slice none 0 0]) ?_ 0 _ rfl; (with_reducible repeat (first | refine blk_drewN ?_ _ | refine blk_drew ?_ | refine blk_alloc ?_ _)); exact ab.out) Try.underlying26 rfl (by kernel_rfl)) rfl ?_; exact ⟨_, _, by first | rfl | (simp [errW_none, errW_some] <;> rfl) | (simp only [← hji21, ← hji24]; first | rfl | (simp [errW_none, errW_some] <;> rfl)) | (simp [*, errW_none, errW_some] <;> rfl), rM (Aside0.mk (yF2 af ab)) (fun _ hk => hk.1), by (with_reducible repeat (first | apply Kd.R_alloc | apply Kd.R_drewN | apply Kd.R_drew)); exact Kd.R_mono (yF2 ae ab) (fun _ hk => hk.1), zS HB.out⟩
          ·rw [if_neg aS] at H; exact absurd H (by simp)
         ·rw [if_neg aR] at H; exact absurd H (by simp)
        ·rw [if_neg aQ] at H; exact absurd H (by simp)
       ·rw [if_neg aP] at H; exact absurd H (by simp)
      ·rw [if_neg aI] at H; have bw : decide (0 < (x3_1.length : Int)) = false := decide_eq_false aI; have bx : decide (0 < x3_1.length) = false := decide_eq_false (by omega); clear aI; simp only [Option.some.injEq, Prod.mk.injEq] at H; obtain ⟨rfl, rfl⟩ := H
       try go_wp2
       replace af := Aside0.mk (Kd.R_drew af.out); replace ae := Aside0.mk (Kd.R_drew ae.out); replace aa := Aside0.mk (blk_drew aa.out); replace ab := Aside0.mk (blk_drew ab.out); replace HB := Aside0.mk (below_drew1 HB.out); obtain ⟨bp, bq, br⟩ := Kd.R_slice af.out
       (first | subst br | (injection br with f1_ f2_ f3_; have f4_ := f1_.symm; have f5_ := f3_.symm; clear f1_ f2_ f3_; subst f4_; subst f5_))
       refine start_ (n := 16) (S := fun w' => True) (ds := []) bl9 (by kernel_rfl) rfl rfl trivial (fun hHeld => ?_); refine with_tabW impl_WordCanon.tab6 impl_WordCanon.bits6 (fun HT_ HW_ => ?_); generalize wr.drew = cZ at af ae aa ab HB hHeld ⊢
       refine pv_ 0 (some 23) bl10 HT_ ?_
       refine pv_ 1 (some 24) bl11 HT_ ?_
       refine pv_ 2 (some 25) bl12 HT_ ?_
       refine pv_ 3 (some 26) bl13 HT_ ?_
       refine pn_ 4 (some 27) bl14 HT_ ?_
       refine pn_ 5 (some 28) bl15 HT_ ?_
       refine pn_ 6 (some 29) bl16 HT_ ?_
       refine pn_ 7 (some 30) bl17 HT_ ?_
       refine pn_ 8 (some 31) bl18 HT_ ?_
       refine pn_ 9 (some 32) bl36 HT_ ?_
       refine pn_ 10 (some 33) bl37 HT_ ?_
       refine pn_ 11 (some 34) bl38 HT_ ?_
       refine pn_ 12 (some 35) bl22 HT_ ?_
       refine pn_ 13 (some 36) bl23 HT_ ?_
       refine pn_ 14 (some 37) bl24 HT_ ?_
       refine pv_ 15 (some 38) bl25 HT_ ?_
       refine done_ (done_of HT_.out (by kernel_rfl)) ?_; obtain ⟨bP, bQ, bR⟩ := Kd.R_slice ae.out; subst bR; obtain ⟨cC, cD⟩ := nn ax; obtain ⟨bW, bX, bY, bZ⟩ := cz2 ab
       try go_wp2
       refine bodyPost_ret (results_cell_row rfl _ _ ag 26 #[.slice bp x3_1.length bq, .slice bP x4_1.length bQ] (0, 0) _ rfl (by (with_reducible repeat (first | refine blk_drewN ?_ _ | refine blk_drew ?_ | refine blk_alloc ?_ _)); refine blk_put (cs := #[.slice bp x3_1.length bq, .slice none 0 0]) ?_ 1 _ rfl; (with_reducible repeat (first | refine blk_drewN ?_ _ | refine blk_drew ?_ | refine blk_alloc ?_ _)); refine blk_put (cs := #[.slice none 0 0, .slice none 0 0]) ?_ 0 _ rfl; (with_reducible repeat (first | refine blk_drewN ?_ _ | refine blk_drew ?_ | refine blk_alloc ?_ _)); exact ab.out) Try.underlying26 rfl (by kernel_rfl)) rfl ?_; exact ⟨_, _, vw, rM (Aside0.mk (yF2 af ab)) (fun _ hk => hk.1), by (with_reducible repeat (first | apply Kd.R_alloc | apply Kd.R_drewN | apply Kd.R_drew)); exact Kd.R_mono (yF2 ae ab) (fun _ hk => hk.1), zS HB.out⟩
   ·rw [if_neg c7] at H; exact absurd H (by simp)
  ·rw [if_neg c6] at H; exact absurd H (by simp)
 ·replace c3 := Bool.eq_false_iff.mpr c3; subst c3
  have H1 : (some (([] : List Int), ([] : List Int))) = some (r1, r2) := by rw [if_neg (show ¬ (false = true) by decide)] at H; exact H
  clear H; have H := H1; clear H1; simp only [Option.some.injEq, Prod.mk.injEq] at H; obtain ⟨rfl, rfl⟩ := H
  go_enter Try.func6, Try.ntmps6
  go_wp2_with (first | ((with_reducible refine gate_dst (N := 1) rfl ?_); (try (refine gate_guard (by rfl) ?_; dsimp only)); refine bx_ 1 #[.slice A0_0 l0_0.length c0_0, .slice A0_1 l0_1.length c0_1] 26 ?_; intro ah hg da hbox hb; have aa := Aside0.mk (hbox); have bs := xG HB hg; have bt := xG HB hg; replace HB := xS HB hb; clear hb hbox hg) | ((with_reducible refine gate_dst (N := 2) rfl ?_); (try (refine gate_guard (by rfl) ?_; dsimp only)); refine bx_ 2 #[.slice none 0 0, .slice none 0 0] 26 ?_; intro ag hg db hbox hb; have ab := Aside0.mk (hbox); have bu := xG HB hg; have bv := xG HB hg; replace HB := xS HB hb; have aw := xN aa hg; have ax := xM aa hg; replace aa := xB aa hb; clear hb hbox hg; obtain ⟨cE, cF⟩ := nn aw; obtain ⟨ca, cb, cc, cd⟩ := cz2 aa) | ((with_reducible refine gate_callee (f := 23) rfl ?_); refine gl_ (some 7) Try.func23 #[.agg #[.slice A0_0 l0_0.length c0_0, .slice A0_1 l0_1.length c0_1]] ?_; (with_reducible refine (impl_isRight.calls k _ _ l0_0 _ _ l0_1 false _ ?side1 ?side2 ?side3 ?side4 A2.out).mono ?_); (case side1 => exact zC (Kd.C_below HR0_0.out HB.out)); (case side2 => exact HC0_0.out); (case side3 => exact zC (Kd.C_below HR0_1.out HB.out)); (case side4 => exact HC0_1.out); rintro e dc ⟨rfl, hb⟩; refine ⟨_, rfl, ?_⟩; replace aa := xB aa hb; replace ab := xB ab hb; replace HB := xS HB hb; (try clear hb); (try clear hb2); (try clear hk); (try clear hi); obtain ⟨ce, cf, cg, ch⟩ := cz2 ab))
  refine bodyPost_ret (results_cell_row rfl _ _ ag 26 #[.slice none 0 0, .slice none 0 0] (0, 0) _ rfl (by (with_reducible repeat (first | refine blk_drewN ?_ _ | refine blk_drew ?_ | refine blk_alloc ?_ _)); refine blk_put (cs := #[.slice none 0 0, .slice none 0 0]) ?_ 1 _ rfl; (with_reducible repeat (first | refine blk_drewN ?_ _ | refine blk_drew ?_ | refine blk_alloc ?_ _)); refine blk_put (cs := #[.slice none 0 0, .slice none 0 0]) ?_ 0 _ rfl; (with_reducible repeat (first | refine blk_drewN ?_ _ | refine blk_drew ?_ | refine blk_alloc ?_ _)); exact ab.out) Try.underlying26 rfl (by kernel_rfl)) rfl ?_; exact ⟨_, _, vw, by first | exact Kd.R_nil _ _ _ _ _ | exact Kd.N_nil _ _ _ _ _ | exact Kd.V_nil _ _ _ _ _ | exact Kd.Q_nil _ _ _ _ _ | exact Kd.S_nil _ _ _ _ _, by first | exact Kd.R_nil _ _ _ _ _ | exact Kd.N_nil _ _ _ _ _ | exact Kd.V_nil _ _ _ _ _ | exact Kd.Q_nil _ _ _ _ _ | exact Kd.S_nil _ _ _ _ _, zS HB.out⟩


/-- A state of type 26 at block g of W; what its slices lead to came in by w0. -/
def IsS26 (w0 W : World) (g : Nat) (f0 : List Int) (f1 : List Int) : Prop := ∃ A0 c0, ∃ A1 c1, W.heap[g]? = some (.cells #[.slice A0 f0.length c0, .slice A1 f1.length c1] 26 (0, 0)) ∧ w0.heap.size ≤ g ∧ Kd.C (Kd.int .i64) w0 A0 f0.length f0 ∧ Kd.C (Kd.int .i64) w0 A1 f1.length f1
theorem IsS26.grown {w0 W : World} {g : Nat} {f0 : List Int} {f1 : List Int} {W1 : World} {row : Option Nat} (h : IsS26 w0 W g f0 f1) (hw : W.grownBy W1 row) (hne : some g ≠ row) : IsS26 w0 W1 g f0 f1 := by
 obtain ⟨A0, c0, A1, c1, hb, hg, hr0, hr1⟩ := h
 exact ⟨A0, c0, A1, c1, blk_grown hb hw hne, hg, hr0, hr1⟩
theorem IsS26.own_neN {w0 W : World} {g : Nat} {f0 : List Int} {f1 : List Int} {α : Type} {d : Kd α} {e : Nat} {base : Nat} {ok : Nat → Prop} {v : Value} {xs : List α} (h : IsS26 w0 W g f0 f1) (ho : Kd.N d e W base ok v xs) (ht : e ≠ 26) : some g ≠ v.ownBlock := by
 obtain ⟨A0, c0, A1, c1, hb, hg, hr0, hr1⟩ := h
 exact Kd.N_ne ho hb ht
theorem IsS26.fresh {w0 W : World} {g : Nat} {f0 : List Int} {f1 : List Int} (h : IsS26 w0 W g f0 f1) : ∀ k, W.heap.size ≤ k → k ≠ g := by
 obtain ⟨A0, c0, A1, c1, hb, hg, hr0, hr1⟩ := h
 exact Kd.freshB hb
theorem IsS26.kept {w0 W : World} {g : Nat} {f0 : List Int} {f1 : List Int} {W1 : World} {S : Nat → Prop} (h : IsS26 w0 W g f0 f1) (hk : Kept W W1 S) (hne : ¬ S g) : IsS26 w0 W1 g f0 f1 := by
 obtain ⟨A0, c0, A1, c1, hb, hg, hr0, hr1⟩ := h
 exact ⟨A0, c0, A1, c1, blk_kept hb hk hne, hg, hr0, hr1⟩
theorem IsS26.below {w0 W : World} {g : Nat} {f0 : List Int} {f1 : List Int} {W1 : World} (h : IsS26 w0 W g f0 f1) (hw : Below W.heap.size W W1) : IsS26 w0 W1 g f0 f1 := h.grown (grown_of_below hw none) (by simp)
theorem IsS26.alloc {w0 W : World} {g : Nat} {f0 : List Int} {f1 : List Int} (h : IsS26 w0 W g f0 f1) (o : Obj) : IsS26 w0 (W.alloc o) g f0 f1 := h.below (below_alloc (Below.refl _ _) o)
theorem IsS26.drewN {w0 W : World} {g : Nat} {f0 : List Int} {f1 : List Int} (h : IsS26 w0 W g f0 f1) (m : Nat) : IsS26 w0 (W.drewN m) g f0 f1 := h
theorem IsS26.drew {w0 W : World} {g : Nat} {f0 : List Int} {f1 : List Int} (h : IsS26 w0 W g f0 f1) : IsS26 w0 W.drew g f0 f1 := h
theorem IsS26.at_ {w0 W : World} {g : Nat} {f0 : List Int} {f1 : List Int} {w' : World} {m : Nat} (hq : W.drewN m = w') (h : IsS26 w0 W g f0 f1) : IsS26 w0 w' g f0 f1 := by subst hq; exact IsS26.drewN h m
theorem IsS26.apart {w0 W : World} {g : Nat} {f0 : List Int} {f1 : List Int} {α : Type} {d : Kd α} {e : Nat} {base : Nat} {ok : Nat → Prop} {v : Value} {xs : List α} (h : IsS26 w0 W g f0 f1) (ho : d.R e W base ok v xs) (ht : ∀ q, q ∈ e :: d.E → q ≠ 26) : d.R e W base (fun k => ok k ∧ k ≠ g) v xs := by
 obtain ⟨A0, c0, A1, c1, hb, hg, hr0, hr1⟩ := h
 exact Kd.R_types ho hb ht
theorem IsS26.own_ne {w0 W : World} {g : Nat} {f0 : List Int} {f1 : List Int} {α : Type} {d : Kd α} {e : Nat} {base : Nat} {ok : Nat → Prop} {v : Value} {xs : List α} (h : IsS26 w0 W g f0 f1) (ho : d.R e W base ok v xs) (ht : e ≠ 26) : some g ≠ v.ownBlock := by
 obtain ⟨A0, c0, A1, c1, hb, hg, hr0, hr1⟩ := h
 exact Kd.R_ne ho hb ht
theorem IsS26.apartQ {w0 W : World} {g : Nat} {f0 : List Int} {f1 : List Int} {α : Type} {d : Kd α} {e : Nat} {base : Nat} {ok : Nat → Prop} {v : Value} {xs : List α} (h : IsS26 w0 W g f0 f1) (ho : d.Q e W base ok v xs) (ht : ∀ q, q ∈ e :: d.E → q ≠ 26) : d.Q e W base (fun k => ok k ∧ k ≠ g) v xs := by
 obtain ⟨A0, c0, A1, c1, hb, hg, hr0, hr1⟩ := h
 exact Kd.Q_types ho hb ht
theorem IsS26.own_neQ {w0 W : World} {g : Nat} {f0 : List Int} {f1 : List Int} {α : Type} {d : Kd α} {e : Nat} {base : Nat} {ok : Nat → Prop} {v : Value} {xs : List α} (h : IsS26 w0 W g f0 f1) (ho : d.Q e W base ok v xs) (ht : e ≠ 26) : some g ≠ v.ownBlock := by
 obtain ⟨A0, c0, A1, c1, hb, hg, hr0, hr1⟩ := h
 exact Kd.Q_ne ho hb ht
theorem IsS26.apartS {w0 W : World} {g : Nat} {f0 : List Int} {f1 : List Int} {α : Type} {d : Kd α} {e : Nat} {base : Nat} {ok : Nat → Prop} {v : Value} {xs : List α} (h : IsS26 w0 W g f0 f1) (ho : d.S e W base ok v xs) (ht : ∀ q, q ∈ e :: d.E → q ≠ 26) : d.S e W base (fun k => ok k ∧ k ≠ g) v xs := by
 obtain ⟨A0, c0, A1, c1, hb, hg, hr0, hr1⟩ := h
 exact Kd.S_types ho hb ht
theorem IsS26.own_neS {w0 W : World} {g : Nat} {f0 : List Int} {f1 : List Int} {α : Type} {d : Kd α} {e : Nat} {base : Nat} {ok : Nat → Prop} {v : Value} {xs : List α} (h : IsS26 w0 W g f0 f1) (ho : d.S e W base ok v xs) (ht : e ≠ 26) : some g ≠ v.ownBlock := by
 obtain ⟨A0, c0, A1, c1, hb, hg, hr0, hr1⟩ := h
 exact Kd.S_ne ho hb ht
theorem IsS26.lt {w0 W : World} {g : Nat} {f0 : List Int} {f1 : List Int} (h : IsS26 w0 W g f0 f1) : g < W.heap.size := by
 obtain ⟨A0, c0, A1, c1, hb, hg, hr0, hr1⟩ := h
 exact blk_lt hb
theorem IsS26.ge {w0 W : World} {g : Nat} {f0 : List Int} {f1 : List Int} (h : IsS26 w0 W g f0 f1) : w0.heap.size ≤ g := by
 obtain ⟨A0, c0, A1, c1, hb, hg, hr0, hr1⟩ := h
 exact hg
theorem IsS26.ne_blk {w0 W : World} {g : Nat} {f0 : List Int} {f1 : List Int} {a : Nat} {cs : Array Value} {t : TypeId} {fr : Nat × Nat} (h : IsS26 w0 W g f0 f1) (hb2 : W.heap[a]? = some (.cells cs t fr)) (ht : t ≠ 26) : g ≠ a := by
 obtain ⟨A0, c0, A1, c1, hb, hg, hr0, hr1⟩ := h
 rintro rfl
 rw [hb] at hb2
 injection hb2 with hb2
 injection hb2 with _ ht2
 exact ht ht2.symm
theorem IsS26.far {w0 W : World} {g : Nat} {f0 : List Int} {f1 : List Int} {p : Addr} (h : IsS26 w0 W g f0 f1) (hne : g ≠ p.block) (u : Value) : IsS26 w0 (W.setCell p u) g f0 f1 := by
 obtain ⟨A0, c0, A1, c1, hb, hg, hr0, hr1⟩ := h
 exact ⟨A0, c0, A1, c1, blk_far hb hne u, hg, hr0, hr1⟩
theorem cellS26_0 {W : World} {g : Nat} {A0 : Option Addr} {c0 : Nat} {A1 : Option Addr} {c1 : Nat} {f0 : List Int} {f1 : List Int} (h : W.heap[g]? = some (.cells #[.slice A0 f0.length c0, .slice A1 f1.length c1] 26 (0, 0))) : W.cell? ⟨g, 0, none⟩ = some (.slice A0 f0.length c0) := (blk_cell h 0).trans rfl
theorem cellS26_1 {W : World} {g : Nat} {A0 : Option Addr} {c0 : Nat} {A1 : Option Addr} {c1 : Nat} {f0 : List Int} {f1 : List Int} (h : W.heap[g]? = some (.cells #[.slice A0 f0.length c0, .slice A1 f1.length c1] 26 (0, 0))) : W.cell? ⟨g, 1, none⟩ = some (.slice A1 f1.length c1) := (blk_cell h 1).trans rfl
theorem IsS26.new (w0 W : World) (A0 : Option Addr) (c0 : Nat) (A1 : Option Addr) (c1 : Nat) (f0 : List Int) (f1 : List Int) (hB : Below w0.heap.size w0 W) (hr0 : Kd.C (Kd.int .i64) w0 A0 f0.length f0) (hr1 : Kd.C (Kd.int .i64) w0 A1 f1.length f1) : IsS26 w0 (W.alloc (.cells #[.slice A0 f0.length c0, .slice A1 f1.length c1] 26)) W.heap.size f0 f1 := ⟨A0, c0, A1, c1, by simpa using heap_alloc_new W _, hB.size, hr0, hr1⟩

/-! ### impl_Word_letter: function 29 -/
def impl_Word_letter.f (s0_0 : List Int) (s0_1 : List Int) (a1 : Int) : Option (Int) := if a1 < (s0_0.length : Int) then (if 0 ≤ a1 then (some (rd s0_0 a1)) else (none)) else (if 0 ≤ (wrap64 (a1 - (s0_0.length : Int))) then (if (wrap64 (a1 - (s0_0.length : Int))) < (s0_1.length : Int) then (some (rd s0_1 (wrap64 (a1 - (s0_0.length : Int))))) else (none)) else (none))
open Go.Proofs.Ytbdcchbhelehcaa.Short2 in
set_option maxHeartbeats 8000000 in
set_option maxRecDepth 100000 in
theorem impl_Word_letter.calls (g : Nat) (s0_0 : List Int) (s0_1 : List Int) (a1 : Int) (r : Int) (w0 w : World) (hI : IsS26 w0 w g s0_0 s0_1) (hB : Below w0.heap.size w0 w) (h : impl_Word_letter.f s0_0 s0_1 a1 = some r) :
  Calls Try.prog 29 #[.pointer (some ⟨g, 0, none⟩), .int .i64 a1] w fun e w' => e = .returned (.int .i64 r) ∧ IsS26 w0 w' g s0_0 s0_1 ∧ Below w0.heap.size w0 w' ∧ KeepBut w w' g none := by
 have HI0 := Aside0.mk hI; have HK := Aside0.mk (KeepBut.refl w g none); have HL := Aside0.mk hB.size; clear hI; have HW0 := Aside0.mk hB.size; have HB := Aside0.mk hB; clear hB; have H : (if a1 < (s0_0.length : Int) then (if 0 ≤ a1 then (some (rd s0_0 a1)) else (none)) else (if 0 ≤ (wrap64 (a1 - (s0_0.length : Int))) then (if (wrap64 (a1 - (s0_0.length : Int))) < (s0_1.length : Int) then (some (rd s0_1 (wrap64 (a1 - (s0_0.length : Int))))) else (none)) else (none))) = some r := h; clear h
 by_cases c3 : a1 < (s0_0.length : Int)
 ·rw [if_pos c3] at H; have ae : decide (a1 < (s0_0.length : Int)) = true := decide_eq_true c3; clear c3
  by_cases c4 : 0 ≤ a1
  ·rw [if_pos c4] at H; have aj : decide (0 ≤ a1) = true := decide_eq_true c4; clear c4; obtain rfl := Option.some.inj H; obtain ⟨ASz5_0, cSz5_0, ASz5_1, cSz5_1, HGz5, hgz5, HSz5_0, HSz5_1⟩ := HI0.out; have af := cellS26_0 HGz5; have ag := cellS26_1 HGz5; clear HGz5 hgz5; have ad : 0 ≤ (a1 : Int) := oD; have q362 : a1 < (s0_0.length : Int) := oD; obtain ⟨ad362, e362, aa⟩ := Kd.at_int HSz5_0 a1 ad q362
   cases e362
   replace aa := pw_cell_below HB.out aa; replace ad := eq_true ad; replace q362 := eq_true q362
   go_enter Try.func29, Try.ntmps29
   go_wp2
   repeat (go_quiet (fail); try go_wp2)
   go_ret; exact ⟨vw, by repeat (first | (with_reducible first | exact HI0.out | apply IsS26.alloc | apply IsS26.drewN | apply IsS26.drew) | exact HI0.out), by repeat (first | (with_reducible first | exact HB.out | apply below_alloc | apply pw_below_drewN | apply below_drew1 | refine below_set ?_ (IsS26.ge HI0.out)) | exact HB.out), by repeat (first | (with_reducible first | exact HK.out | apply KeepBut.set_ | apply keep_drewN | apply keep_drew | apply keep_alloc) | exact HK.out)⟩
  ·rw [if_neg c4] at H; exact absurd H (by simp)
 ·rw [if_neg c3] at H; have ae : decide (a1 < (s0_0.length : Int)) = false := decide_eq_false c3; clear c3; obtain ⟨ji6, hji6⟩ : ∃ j_ : Int, (wrap64 (a1 - (s0_0.length : Int))) = j_ := ⟨_, rfl⟩
  replace H : (if 0 ≤ (ji6) then (if (ji6) < (s0_1.length : Int) then (some (rd s0_1 (ji6))) else (none)) else (none)) = some r := by first | (rw [hji6] at H; exact H) | (simp only [hji6] at H ⊢; exact H)
  have hji6w : (IntKind.i64.wrap (a1 - (s0_0.length : Int))) = ji6 := (i64_w _).trans hji6
  by_cases c7 : 0 ≤ (ji6)
  ·rw [if_pos c7] at H; have ak : decide (0 ≤ (ji6)) = true := decide_eq_true c7; clear c7
   by_cases c8 : (ji6) < (s0_1.length : Int)
   ·rw [if_pos c8] at H; have al : decide ((ji6) < (s0_1.length : Int)) = true := decide_eq_true c8; clear c8; obtain rfl := Option.some.inj H; obtain ⟨ASz9_0, cSz9_0, ASz9_1, cSz9_1, HGz9, hgz9, HSz9_0, HSz9_1⟩ := HI0.out; have ah := cellS26_0 HGz9; have ai := cellS26_1 HGz9; clear HGz9 hgz9; have ac : 0 ≤ ((ji6) : Int) := oD; have q363 : (ji6) < (s0_1.length : Int) := oD; obtain ⟨ad363, e363, ab⟩ := Kd.at_int HSz9_1 (ji6) ac q363
    cases e363
    replace ab := pw_cell_below HB.out ab
    (try (obtain ⟨ad363zz5, e363zz5, hx363_0zz5⟩ := Kd.at_int HSz5_1 (ji6) ac q363; cases e363zz5; replace hx363_0zz5 := pw_cell_below HB.out hx363_0zz5))
    replace ac := eq_true ac; replace q363 := eq_true q363
    go_enter Try.func29, Try.ntmps29
    go_wp2
    repeat (go_quiet (fail); try go_wp2)
    go_ret; exact ⟨by first | rfl | (simp [errW_none, errW_some] <;> rfl) | (simp only [← hji6]; first | rfl | (simp [errW_none, errW_some] <;> rfl)) | (simp [*, errW_none, errW_some] <;> rfl), by repeat (first | (with_reducible first | exact HI0.out | apply IsS26.alloc | apply IsS26.drewN | apply IsS26.drew) | exact HI0.out), by repeat (first | (with_reducible first | exact HB.out | apply below_alloc | apply pw_below_drewN | apply below_drew1 | refine below_set ?_ (IsS26.ge HI0.out)) | exact HB.out), by repeat (first | (with_reducible first | exact HK.out | apply KeepBut.set_ | apply keep_drewN | apply keep_drew | apply keep_alloc) | exact HK.out)⟩
   ·rw [if_neg c8] at H; exact absurd H (by simp)
  ·rw [if_neg c7] at H; exact absurd H (by simp)


/-! ### impl_Word_placeOf: function 30 -/
def impl_Word_placeOf.f (s0_0 : List Int) (s0_1 : List Int) (a1 : Int) : Option (Int) := if a1 < (s0_0.length : Int) then (some a1) else (if (s0_1.length : Int) = 0 then (none) else (some (wrap64 ((s0_0.length : Int) + (Int.tmod (wrap64 (a1 - (s0_0.length : Int))) (s0_1.length : Int))))))
open Go.Proofs.Ytbdcchbhelehcaa.Short2 in
set_option maxHeartbeats 8000000 in
set_option maxRecDepth 100000 in
theorem impl_Word_placeOf.calls (g : Nat) (s0_0 : List Int) (s0_1 : List Int) (a1 : Int) (r : Int) (w0 w : World) (hI : IsS26 w0 w g s0_0 s0_1) (hB : Below w0.heap.size w0 w) (h : impl_Word_placeOf.f s0_0 s0_1 a1 = some r) :
  Calls Try.prog 30 #[.pointer (some ⟨g, 0, none⟩), .int .i64 a1] w fun e w' => e = .returned (.int .i64 r) ∧ IsS26 w0 w' g s0_0 s0_1 ∧ Below w0.heap.size w0 w' ∧ KeepBut w w' g none := by
 have HI0 := Aside0.mk hI; have HK := Aside0.mk (KeepBut.refl w g none); have HL := Aside0.mk hB.size; clear hI; have HW0 := Aside0.mk hB.size; have HB := Aside0.mk hB; clear hB; have H : (if a1 < (s0_0.length : Int) then (some a1) else (if (s0_1.length : Int) = 0 then (none) else (some (wrap64 ((s0_0.length : Int) + (Int.tmod (wrap64 (a1 - (s0_0.length : Int))) (s0_1.length : Int))))))) = some r := h; clear h
 by_cases c3 : a1 < (s0_0.length : Int)
 ·rw [if_pos c3] at H; have aa : decide (a1 < (s0_0.length : Int)) = true := decide_eq_true c3; clear c3; obtain rfl := Option.some.inj H; obtain ⟨ASz4_0, cSz4_0, ASz4_1, cSz4_1, HGz4, hgz4, HSz4_0, HSz4_1⟩ := HI0.out; have ab := cellS26_0 HGz4; have ac := cellS26_1 HGz4; clear HGz4 hgz4
  go_enter Try.func30, Try.ntmps30
  go_wp2
  repeat (go_quiet (fail); try go_wp2)
  go_ret; exact ⟨vw, by repeat (first | (with_reducible first | exact HI0.out | apply IsS26.alloc | apply IsS26.drewN | apply IsS26.drew) | exact HI0.out), by repeat (first | (with_reducible first | exact HB.out | apply below_alloc | apply pw_below_drewN | apply below_drew1 | refine below_set ?_ (IsS26.ge HI0.out)) | exact HB.out), by repeat (first | (with_reducible first | exact HK.out | apply KeepBut.set_ | apply keep_drewN | apply keep_drew | apply keep_alloc) | exact HK.out)⟩
 ·rw [if_neg c3] at H; have aa : decide (a1 < (s0_0.length : Int)) = false := decide_eq_false c3; clear c3
  by_cases c5 : (s0_1.length : Int) = 0
  ·rw [if_pos c5] at H; exact absurd H (by simp)
  ·rw [if_neg c5] at H; have af : ((s0_1.length : Int) == 0) = false := beq_eq_false_iff_ne.mpr c5; have ag : ((s0_1.length : Int) != 0) = true := bne_iff_ne.mpr c5; have ah : ¬ (s0_1 = []) := fun h_ => c5 (by rw [h_]; rfl); obtain rfl := Option.some.inj H; obtain ⟨ASz6_0, cSz6_0, ASz6_1, cSz6_1, HGz6, hgz6, HSz6_0, HSz6_1⟩ := HI0.out; have ad := cellS26_0 HGz6; have ae := cellS26_1 HGz6; clear HGz6 hgz6
   go_enter Try.func30, Try.ntmps30
   go_wp2
   repeat (go_quiet (fail); try go_wp2)
   go_ret; exact ⟨vw, by repeat (first | (with_reducible first | exact HI0.out | apply IsS26.alloc | apply IsS26.drewN | apply IsS26.drew) | exact HI0.out), by repeat (first | (with_reducible first | exact HB.out | apply below_alloc | apply pw_below_drewN | apply below_drew1 | refine below_set ?_ (IsS26.ge HI0.out)) | exact HB.out), by repeat (first | (with_reducible first | exact HK.out | apply KeepBut.set_ | apply keep_drewN | apply keep_drew | apply keep_alloc) | exact HK.out)⟩


/-! ### impl_WordAt: function 8 -/
def impl_WordAt.j0 : Nat → Int → Bool → List Int → List Int → Option (Int)
 | 0, _, _, _, _ => none
 | k + 1, x1, x11, x365000, x365001 => if x11 = true then (some (-1)) else ((impl_Word_placeOf.f x365000 x365001 x1).bind fun t366 => ((impl_Word_letter.f x365000 x365001 t366).bind fun t367 => (some t367)))
def impl_WordAt.f (k : Nat) (l0_0 : List Int) (l0_1 : List Int) (a1 : Int) : Option (Int) := if a1 < 0 then (impl_WordAt.j0 k a1 true l0_0 l0_1) else ((impl_isRight.f k l0_0 l0_1).bind fun t365 => (impl_WordAt.j0 k a1 (!t365) l0_0 l0_1))
theorem impl_WordAt.mono_l : ∀ k, (∀ y0 y1 y2 y3, LeO (impl_WordAt.j0 k y0 y1 y2 y3) (impl_WordAt.j0 (k + 1) y0 y1 y2 y3))
 | 0 => fun _ _ _ _ r h => by simp [impl_WordAt.j0] at h
 | k + 1 => by
  have ih0 := impl_WordAt.mono_l k
  ·intro y0 y1 y2 y3
   unfold impl_WordAt.j0
   repeat' first
   | (with_reducible exact ih0 _ _ _ _)
   | (with_reducible exact impl_isRight.mono _ _ _)
   | (with_reducible exact LeO.refl _)
   | (with_reducible exact LeO.none _)
   | (with_reducible refine LeO.ite ?_ ?_)
   | (with_reducible refine LeO.bind ?_ (fun _ => ?_))
   | exact ih0 _ _ _ _
   | exact impl_isRight.mono _ _ _
   | exact LeO.none _
   | refine LeO.ite ?_ ?_
   | refine LeO.bind ?_ (fun _ => ?_)
theorem impl_WordAt.mono : ∀ a0 a1 a2 k, LeO (impl_WordAt.f k a0 a1 a2) (impl_WordAt.f (k + 1) a0 a1 a2) := by
 intro a0 a1 a2 k
 have ih0 := impl_WordAt.mono_l k
 unfold impl_WordAt.f
 repeat' first
   | (with_reducible exact ih0 _ _ _ _)
   | (with_reducible exact impl_isRight.mono _ _ _)
   | (with_reducible exact LeO.refl _)
   | (with_reducible exact LeO.none _)
   | (with_reducible refine LeO.ite ?_ ?_)
   | (with_reducible refine LeO.bind ?_ (fun _ => ?_))
   | exact ih0 _ _ _ _
   | exact impl_isRight.mono _ _ _
   | exact LeO.none _
   | refine LeO.ite ?_ ?_
   | refine LeO.bind ?_ (fun _ => ?_)
open Go.Proofs.Ytbdcchbhelehcaa.Short2 in
set_option maxHeartbeats 8000000 in
set_option maxRecDepth 100000 in
theorem impl_WordAt.calls (k : Nat) (A0_0 : Option Addr) (c0_0 : Nat) (l0_0 : List Int) (A0_1 : Option Addr) (c0_1 : Nat) (l0_1 : List Int) (a1 : Int) (r : Int) (w : World) (hr0_0 : Kd.C (Kd.int .i64) w A0_0 l0_0.length l0_0) (hc0_0 : l0_0.length ≤ c0_0) (hr0_1 : Kd.C (Kd.int .i64) w A0_1 l0_1.length l0_1) (hc0_1 : l0_1.length ≤ c0_1) (h : impl_WordAt.f k l0_0 l0_1 a1 = some r) :
  Calls Try.prog 8 #[.agg #[.slice A0_0 l0_0.length c0_0, .slice A0_1 l0_1.length c0_1], .int .i64 a1] w fun e w' => e = .returned (.int .i64 r) ∧ Below w.heap.size w w' := by
 have hu26 := Try.underlying26; have HR0_0 := Aside0.mk hr0_0; have HC0_0 := Aside0.mk hc0_0; clear hr0_0 hc0_0; have HR0_1 := Aside0.mk hr0_1; have HC0_1 := Aside0.mk hc0_1; clear hr0_1 hc0_1; have HB := Aside0.mk (Below.refl w.heap.size w); have H : (if a1 < 0 then (impl_WordAt.j0 k a1 true l0_0 l0_1) else ((impl_isRight.f k l0_0 l0_1).bind fun ag => (impl_WordAt.j0 k a1 (!ag) l0_0 l0_1))) = some r := h; clear h; have HC3 := Aside0.mk H; clear H
 go_enter Try.func8, Try.ntmps8
 go_upto_region 1 with (first | ((with_reducible refine gate_dst (N := 2) rfl ?_); refine bx_ 2 #[.slice A0_0 l0_0.length c0_0, .slice A0_1 l0_1.length c0_1] 26 ?_; intro ab hg w4 hbox hb; have aa := Aside0.mk (hbox); have ap := xG HB hg; have aw := xG HB hg; replace HB := xS HB hb; clear hb hbox hg))
 (try simp only [Act.put, q3])
 go_cut [11] (fun ar wc => ∃ (kq : Nat) (af : Bool), ar = .bool af ∧ Aside0 (impl_WordAt.j0 kq a1 af l0_0 l0_1 = some r) ∧ Aside0 (kq ≤ k) ∧ Aside0 (wc.heap[ab]? = some (.cells #[(.slice A0_0 l0_0.length c0_0), (.slice A0_1 l0_1.length c0_1)] 26 (0, 0))) ∧ Aside0 (Below w.heap.size w wc))
 case first =>
  have H := HC3.out; clear HC3
  by_cases c5 : a1 < 0
  ·rw [if_pos c5] at H; have ac : decide (a1 < 0) = true := decide_eq_true c5; clear c5
   (first | rw [ac] | (simp only [i64_w, i32_w]; rw [ac]) | skip)
   have H' := Aside0.mk H; clear H
   go_wp2
   go_meet
   case rel => exact ⟨_, (true), vv, H', ⟨by first | omega | exact Nat.le_refl _⟩, ⟨zB aa.out⟩, ⟨zS HB.out⟩⟩
  ·rw [if_neg c5] at H; have ac : decide (a1 < 0) = false := decide_eq_false c5; clear c5
   (first | rw [ac] | (simp only [i64_w, i32_w]; rw [ac]) | skip)
   replace H := bI H; obtain ⟨ag, aq, H⟩ := H; replace H : (impl_WordAt.j0 k a1 (!ag) l0_0 l0_1) = some r := H; have A6 := Aside0.mk aq; clear aq; have H' := Aside0.mk H; clear H; obtain ⟨aj, ak, al, am⟩ := cz2 aa
   go_wp2_with (first | (go_at_call 23; (with_reducible refine (impl_isRight.calls k _ _ l0_0 _ _ l0_1 ag _ ?side1 ?side2 ?side3 ?side4 A6.out).mono ?_); (case side1 => exact zC (Kd.C_below HR0_0.out HB.out)); (case side2 => exact HC0_0.out); (case side3 => exact zC (Kd.C_below HR0_1.out HB.out)); (case side4 => exact HC0_1.out); rintro e w8 ⟨rfl, hb⟩; replace aa := xB aa hb; replace HB := xS HB hb; (try clear hb); (try clear hb2); (try clear hk); (try clear hi)))
   go_meet
   case rel => exact ⟨_, (!ag), vv, H', ⟨by first | omega | exact Nat.le_refl _⟩, ⟨zB aa.out⟩, ⟨zS HB.out⟩⟩
 case rest =>
  clear HC3
  try clear p2
  try clear c5
  try clear ac
  try clear c8
  try clear aj ak al am
  obtain ⟨kq, af, rfl, HA, HJ2, aa, HB⟩ := hcut
  cases kq with
  | zero => exact absurd HA.out (by simp [impl_WordAt.j0])
  | succ kj2 =>
   have H := HA.out; clear HA; simp only [impl_WordAt.j0] at H
   by_cases c9 : af = true
   ·subst c9
    have H1 : (some (-1)) = some r := by rw [if_pos rfl] at H; exact H
    clear H; have H := H1; clear H1; obtain rfl := Option.some.inj H
    go_wp2
    go_ret; exact ⟨vw, zS HB.out⟩
   ·replace c9 := Bool.eq_false_iff.mpr c9; subst c9
    have H1 : ((impl_Word_placeOf.f l0_0 l0_1 a1).bind fun ad => ((impl_Word_letter.f l0_0 l0_1 ad).bind fun ae => (some ae))) = some r := by rw [if_neg (show ¬ (false = true) by decide)] at H; exact H
    clear H; have H := H1; clear H1; replace H := bI H; obtain ⟨ad, an, H⟩ := H; replace H : ((impl_Word_letter.f l0_0 l0_1 ad).bind fun ae => (some ae)) = some r := H; have au := Aside0.mk an; clear an; replace H := bI H; obtain ⟨ae, ao, H⟩ := H; replace H : (some ae) = some r := H; have av := Aside0.mk ao; clear ao; obtain rfl := Option.some.inj H; have HI364 := Aside0.mk (show IsS26 w wc ab l0_0 l0_1 from ⟨A0_0, c0_0, A0_1, c0_1, aa.out, ap.out, HR0_0.out, HR0_1.out⟩); clear aa
    go_wp2_with (first | ((with_reducible refine gate_callee (f := 30) rfl ?_); refine gl_ (some 13) Try.func30 #[.pointer (some ⟨ab, 0, none⟩), .int .i64 a1] ?_; (with_reducible refine (impl_Word_placeOf.calls ab l0_0 l0_1 a1 ad w _ ?side1 ?side2 au.out).mono ?_); (case side1 => repeat (first | (with_reducible first | exact HI364.out | apply IsS26.alloc | apply IsS26.drewN | apply IsS26.drew) | exact HI364.out)); (case side2 => repeat (first | (with_reducible first | exact HB.out | apply below_alloc | apply pw_below_drewN | apply below_drew1 | refine below_set ?_ (IsS26.ge HI364.out)) | exact HB.out)); rintro e ax ⟨rfl, hi, hb, hk⟩; refine ⟨_, rfl, ?_⟩; have ah := Aside0.mk (hb); have ai := Aside0.mk (hi); clear HB; clear HI364; have HB := ah; have HI364 := ai; clear ah ai; (try clear hb); (try clear hb2); (try clear hk); (try clear hi)) | ((with_reducible refine gate_callee (f := 29) rfl ?_); refine gl_ (some 14) Try.func29 #[.pointer (some ⟨ab, 0, none⟩), .int .i64 ad] ?_; (with_reducible refine (impl_Word_letter.calls ab l0_0 l0_1 ad ae w _ ?side1 ?side2 av.out).mono ?_); (case side1 => repeat (first | (with_reducible first | exact HI364.out | apply IsS26.alloc | apply IsS26.drewN | apply IsS26.drew) | exact HI364.out)); (case side2 => repeat (first | (with_reducible first | exact HB.out | apply below_alloc | apply pw_below_drewN | apply below_drew1 | refine below_set ?_ (IsS26.ge HI364.out)) | exact HB.out)); rintro e ay ⟨rfl, hi, hb, hk⟩; refine ⟨_, rfl, ?_⟩; have ah := Aside0.mk (hb); have ai := Aside0.mk (hi); clear HB; clear HI364; have HB := ah; have HI364 := ai; clear ah ai; (try clear hb); (try clear hb2); (try clear hk); (try clear hi)))
    go_ret; exact ⟨vw, by repeat (first | (with_reducible first | exact HB.out | apply below_alloc | apply pw_below_drewN | apply below_drew1 | refine below_set ?_ (IsS26.ge HI364.out)) | exact HB.out)⟩


/-! ### impl_rightOr: function 32 -/
def impl_rightOr.f (k : Nat) (l0_0 : List Int) (l0_1 : List Int) (a1 : Bool) : Option (List Int × List Int × Bool) := if a1 = true then ((impl_isRight.f k l0_0 l0_1).bind fun t370 => (if t370 = true then (some (l0_0, l0_1, true)) else (some (([] : List Int), ([] : List Int), false)))) else (some (([] : List Int), ([] : List Int), false))
theorem impl_rightOr.mono : ∀ a0 a1 a2 k, LeO (impl_rightOr.f k a0 a1 a2) (impl_rightOr.f (k + 1) a0 a1 a2) := by
 intro a0 a1 a2 k
 unfold impl_rightOr.f
 repeat' first
   | (with_reducible exact impl_isRight.mono _ _ _)
   | (with_reducible exact LeO.refl _)
   | (with_reducible exact LeO.none _)
   | (with_reducible refine LeO.ite ?_ ?_)
   | (with_reducible refine LeO.bind ?_ (fun _ => ?_))
   | exact impl_isRight.mono _ _ _
   | exact LeO.none _
   | refine LeO.ite ?_ ?_
   | refine LeO.bind ?_ (fun _ => ?_)
open Go.Proofs.Ytbdcchbhelehcaa.Short2 in
set_option maxHeartbeats 8000000 in
set_option maxRecDepth 100000 in
theorem impl_rightOr.calls (k : Nat) (P0_0_ : Nat → Prop) (u9000_ : Value) (l0_0 : List Int) (P0_1_ : Nat → Prop) (u9001_ : Value) (l0_1 : List Int) (a1 : Bool) (r1 : List Int) (r2 : List Int) (r3 : Bool) (w0 w : World) (hB : Below w0.heap.size w0 w) (ho0_0 : Kd.R (Kd.int .i64) 3 w w0.heap.size P0_0_ u9000_ l0_0) (hp0_0_0_1 : ∀ k_, P0_0_ k_ → ¬ P0_1_ k_) (ho0_1 : Kd.R (Kd.int .i64) 3 w w0.heap.size P0_1_ u9001_ l0_1) (hp0_1_0_0 : ∀ k_, P0_1_ k_ → ¬ P0_0_ k_) (h : impl_rightOr.f k l0_0 l0_1 a1 = some (r1, r2, r3)) :
  Calls Try.prog 32 #[.agg #[u9000_, u9001_], .bool a1] w fun e w' => ∃ v0_ v1_ : Value, e = .returned (.tuple #[.agg #[v0_, v1_], .bool r3]) ∧ Kd.R (Kd.int .i64) 3 w' w0.heap.size (fun k_ => ((P0_0_ k_ ∨ P0_1_ k_) ∨ w.heap.size ≤ k_) ∧ some k_ ≠ (v1_ : Value).ownBlock) v0_ r1 ∧ Kd.R (Kd.int .i64) 3 w' w0.heap.size (fun k_ => ((P0_0_ k_ ∨ P0_1_ k_) ∨ w.heap.size ≤ k_) ∧ some k_ ≠ (v0_ : Value).ownBlock) v1_ r2 ∧ Below w0.heap.size w0 w' ∧ Kept w w' (fun k_ => P0_0_ k_ ∨ P0_1_ k_) := by
 have hu26 := Try.underlying26; have HO0_0 := Aside0.mk (show Kd.R (Kd.int .i64) 3 w w0.heap.size (fun k_ => ((P0_0_ k_ ∨ P0_1_ k_) ∨ w.heap.size ≤ k_) ∧ some k_ ≠ (u9001_ : Value).ownBlock) u9000_ l0_0 from Kd.R_mono ho0_0 (fun k_ hk => ⟨(.inl (.inl hk)), fun e_ => hp0_0_0_1 k_ hk (ho0_1.1 k_ e_.symm)⟩)); have HO0_1 := Aside0.mk (show Kd.R (Kd.int .i64) 3 w w0.heap.size (fun k_ => ((P0_0_ k_ ∨ P0_1_ k_) ∨ w.heap.size ≤ k_) ∧ some k_ ≠ (u9000_ : Value).ownBlock) u9001_ l0_1 from Kd.R_mono ho0_1 (fun k_ hk => ⟨(.inl (.inr hk)), fun e_ => hp0_1_0_0 k_ hk (ho0_0.1 k_ e_.symm)⟩)); have HK := Aside0.mk (Kept.refl w (fun k_ => P0_0_ k_ ∨ P0_1_ k_)); have HW0 := Aside0.mk hB.size; have HB := Aside0.mk hB; clear hB; have H : (if a1 = true then ((impl_isRight.f k l0_0 l0_1).bind fun ar => (if ar = true then (some (l0_0, l0_1, true)) else (some (([] : List Int), ([] : List Int), false)))) else (some (([] : List Int), ([] : List Int), false))) = some (r1, r2, r3) := h; clear h
 by_cases c3 : a1 = true
 ·subst c3
  have H1 : ((impl_isRight.f k l0_0 l0_1).bind fun ar => (if ar = true then (some (l0_0, l0_1, true)) else (some (([] : List Int), ([] : List Int), false)))) = some (r1, r2, r3) := by rw [if_pos rfl] at H; exact H
  clear H; have H := H1; clear H1; replace H := bI H; obtain ⟨ar, az, H⟩ := H; replace H : (if ar = true then (some (l0_0, l0_1, true)) else (some (([] : List Int), ([] : List Int), false))) = some (r1, r2, r3) := H; have A4 := Aside0.mk az; clear az
  by_cases c5 : ar = true
  ·subst c5
   have H1 : (some (l0_0, l0_1, true)) = some (r1, r2, r3) := by rw [if_pos rfl] at H; exact H
   clear H; have H := H1; clear H1; simp only [Option.some.injEq, Prod.mk.injEq] at H; obtain ⟨rfl, rfl, rfl⟩ := H; obtain ⟨ax, ay, bm⟩ := Kd.R_slice HO0_0.out; subst bm; obtain ⟨aA, aB, bn⟩ := Kd.R_slice HO0_1.out; subst bn
   go_enter Try.func32, Try.ntmps32
   go_wp2_with (first | ((with_reducible refine gate_dst (N := 2) rfl ?_); refine bx_ 2 #[.slice ax l0_0.length ay, .slice aA l0_1.length aB] 26 ?_; intro al hg w8 hbox hb; have ac := xR HO0_0 hb; have ad := xR HO0_1 hb; have ae := Aside0.mk (Kept.below (S := (fun k_ => P0_0_ k_ ∨ P0_1_ k_)) (by repeat (first | (with_reducible first | exact HK.out | apply Kept.alloc | apply Kept.drewN | apply Kept.drew) | exact HK.out)) hb); have af := xS HB hb; have ag := Aside0.mk (hbox); have ah := Aside0.mk ((by rw [hg]; exact (by first | exact HK.out.1 | exact (show Kept w _ (fun k_ => P0_0_ k_ ∨ P0_1_ k_) from by repeat (first | (with_reducible first | exact HK.out | apply Kept.alloc | apply Kept.drewN | apply Kept.drew) | exact HK.out)).1) : w.heap.size ≤ al)); have ak := Aside0.mk ((by rw [hg]; exact (below_size (zS HB.out)) : w0.heap.size ≤ al)); clear HO0_0; clear HO0_1; clear HK; clear HB; have HO0_0 := ac; have HO0_1 := ad; have HK := ae; have HB := af; have aa := ag; have ai := ah; have ap := ak; clear ac ad ae af ag ah ak; clear hb hbox hg) | ((with_reducible refine gate_dst (N := 4) rfl ?_); refine bx_ 4 #[.slice none 0 0, .slice none 0 0] 26 ?_; intro aj hg w9 hbox hb; have ac := xR HO0_0 hb; have ad := xR HO0_1 hb; have ae := xB aa hb; have af := Aside0.mk (Kept.below (S := (fun k_ => P0_0_ k_ ∨ P0_1_ k_)) (by repeat (first | (with_reducible first | exact HK.out | apply Kept.alloc | apply Kept.drewN | apply Kept.drew | refine Kept.setCell ?_ (.inr ai.out) _) | exact HK.out)) hb); have ag := xS HB hb; have ah := Aside0.mk (hbox); have ak := Aside0.mk ((by rw [hg]; exact (by first | exact HK.out.1 | exact (show Kept w _ (fun k_ => P0_0_ k_ ∨ P0_1_ k_) from by repeat (first | (with_reducible first | exact HK.out | apply Kept.alloc | apply Kept.drewN | apply Kept.drew | refine Kept.setCell ?_ (.inr ai.out) _) | exact HK.out)).1) : w.heap.size ≤ aj)); have au := Aside0.mk ((by rw [hg]; exact (below_size (zS HB.out)) : w0.heap.size ≤ aj)); have av := xN aa hg; have aw := xM aa hg; clear HO0_0; clear HO0_1; clear aa; clear HK; clear HB; have HO0_0 := ac; have HO0_1 := ad; have aa := ae; have HK := af; have HB := ag; have ab := ah; have an := ak; have aq := au; have am := av; have ao := aw; clear ac ad ae af ag ah ak au av aw; clear hb hbox hg; obtain ⟨bo, bp⟩ := nn am; obtain ⟨aO, aP, aQ, aR⟩ := cz2 aa) | (go_at_call 23; (with_reducible refine (impl_isRight.calls k _ _ l0_0 _ _ l0_1 true _ ?side1 ?side2 ?side3 ?side4 A4.out).mono ?_); (case side1 => exact sC HO0_0); (case side2 => exact sL HO0_0); (case side3 => exact sC HO0_1); (case side4 => exact sL HO0_1); rintro e bu ⟨rfl, hb⟩; have ac := xR HO0_0 hb; have ad := xR HO0_1 hb; have ae := xB aa hb; have af := xB ab hb; have ag := Aside0.mk (Kept.below (S := (fun k_ => P0_0_ k_ ∨ P0_1_ k_)) (by repeat (first | (with_reducible first | exact HK.out | apply Kept.alloc | apply Kept.drewN | apply Kept.drew | refine Kept.setCell ?_ (.inr ai.out) _ | refine Kept.setCell ?_ (.inr an.out) _) | exact HK.out)) hb); have ah := xS HB hb; clear HO0_0; clear HO0_1; clear aa; clear ab; clear HK; clear HB; have HO0_0 := ac; have HO0_1 := ad; have aa := ae; have ab := af; have HK := ag; have HB := ah; clear ac ad ae af ag ah; (try clear hb); (try clear hb2); (try clear hk); (try clear hi); obtain ⟨aS, aT, aU, aV⟩ := cz2 aa; obtain ⟨aW, aX, aY, aZ⟩ := cz2 ab))
   refine bodyPost_ret (results_ct rfl _ _ aj 26 #[.slice ax l0_0.length ay, .slice aA l0_1.length aB] (0, 0) _ rfl (by (with_reducible repeat (first | refine blk_drewN ?_ _ | refine blk_drew ?_ | refine blk_alloc ?_ _)); refine blk_put (cs := #[.slice ax l0_0.length ay, .slice none 0 0]) ?_ 1 _ rfl; (with_reducible repeat (first | refine blk_drewN ?_ _ | refine blk_drew ?_ | refine blk_alloc ?_ _)); refine blk_put (cs := #[.slice none 0 0, .slice none 0 0]) ?_ 0 _ rfl; (with_reducible repeat (first | refine blk_drewN ?_ _ | refine blk_drew ?_ | refine blk_alloc ?_ _)); exact ab.out) Try.underlying26 rfl (by kernel_rfl)) rfl ?_; exact ⟨_, _, vw, rM (Aside0.mk (yF2 HO0_0 ab)) (fun _ hk => ⟨hk.1.1, hk.1.2⟩), by (with_reducible repeat (first | apply Kd.R_alloc | apply Kd.R_drewN | apply Kd.R_drew)); exact Kd.R_mono (yF2 HO0_1 ab) (fun _ hk => ⟨hk.1.1, hk.1.2⟩), by repeat (first | (with_reducible first | exact HB.out | apply below_alloc | apply pw_below_drewN | apply below_drew1 | refine below_set ?_ ap.out | refine below_set ?_ aq.out) | exact HB.out), by repeat (first | (with_reducible first | exact HK.out | apply Kept.alloc | apply Kept.drewN | apply Kept.drew | refine Kept.setCell ?_ (.inr ai.out) _ | refine Kept.setCell ?_ (.inr an.out) _) | exact HK.out)⟩
  ·replace c5 := Bool.eq_false_iff.mpr c5; subst c5
   have H1 : (some (([] : List Int), ([] : List Int), false)) = some (r1, r2, r3) := by rw [if_neg (show ¬ (false = true) by decide)] at H; exact H
   clear H; have H := H1; clear H1; simp only [Option.some.injEq, Prod.mk.injEq] at H; obtain ⟨rfl, rfl, rfl⟩ := H; obtain ⟨aC, aD, aE⟩ := Kd.R_slice HO0_0.out; subst aE; obtain ⟨aF, aG, aH⟩ := Kd.R_slice HO0_1.out; subst aH
   go_enter Try.func32, Try.ntmps32
   go_wp2_with (first | ((with_reducible refine gate_dst (N := 2) rfl ?_); refine bx_ 2 #[.slice aC l0_0.length aD, .slice aF l0_1.length aG] 26 ?_; intro al hg bv hbox hb; have ac := xR HO0_0 hb; have ad := xR HO0_1 hb; have ae := Aside0.mk (Kept.below (S := (fun k_ => P0_0_ k_ ∨ P0_1_ k_)) (by repeat (first | (with_reducible first | exact HK.out | apply Kept.alloc | apply Kept.drewN | apply Kept.drew) | exact HK.out)) hb); have af := xS HB hb; have ag := Aside0.mk (hbox); have ah := Aside0.mk ((by rw [hg]; exact (by first | exact HK.out.1 | exact (show Kept w _ (fun k_ => P0_0_ k_ ∨ P0_1_ k_) from by repeat (first | (with_reducible first | exact HK.out | apply Kept.alloc | apply Kept.drewN | apply Kept.drew) | exact HK.out)).1) : w.heap.size ≤ al)); have ak := Aside0.mk ((by rw [hg]; exact (below_size (zS HB.out)) : w0.heap.size ≤ al)); clear HO0_0; clear HO0_1; clear HK; clear HB; have HO0_0 := ac; have HO0_1 := ad; have HK := ae; have HB := af; have aa := ag; have ai := ah; have ap := ak; clear ac ad ae af ag ah ak; clear hb hbox hg) | ((with_reducible refine gate_dst (N := 4) rfl ?_); refine bx_ 4 #[.slice none 0 0, .slice none 0 0] 26 ?_; intro aj hg bw hbox hb; have ac := xR HO0_0 hb; have ad := xR HO0_1 hb; have ae := xB aa hb; have af := Aside0.mk (Kept.below (S := (fun k_ => P0_0_ k_ ∨ P0_1_ k_)) (by repeat (first | (with_reducible first | exact HK.out | apply Kept.alloc | apply Kept.drewN | apply Kept.drew | refine Kept.setCell ?_ (.inr ai.out) _) | exact HK.out)) hb); have ag := xS HB hb; have ah := Aside0.mk (hbox); have ak := Aside0.mk ((by rw [hg]; exact (by first | exact HK.out.1 | exact (show Kept w _ (fun k_ => P0_0_ k_ ∨ P0_1_ k_) from by repeat (first | (with_reducible first | exact HK.out | apply Kept.alloc | apply Kept.drewN | apply Kept.drew | refine Kept.setCell ?_ (.inr ai.out) _) | exact HK.out)).1) : w.heap.size ≤ aj)); have au := Aside0.mk ((by rw [hg]; exact (below_size (zS HB.out)) : w0.heap.size ≤ aj)); have av := xN aa hg; have aw := xM aa hg; clear HO0_0; clear HO0_1; clear aa; clear HK; clear HB; have HO0_0 := ac; have HO0_1 := ad; have aa := ae; have HK := af; have HB := ag; have ab := ah; have an := ak; have aq := au; have am := av; have ao := aw; clear ac ad ae af ag ah ak au av aw; clear hb hbox hg; obtain ⟨bq, br⟩ := nn am; obtain ⟨ba, bb, bc, bd⟩ := cz2 aa) | (go_at_call 23; (with_reducible refine (impl_isRight.calls k _ _ l0_0 _ _ l0_1 false _ ?side1 ?side2 ?side3 ?side4 A4.out).mono ?_); (case side1 => exact sC HO0_0); (case side2 => exact sL HO0_0); (case side3 => exact sC HO0_1); (case side4 => exact sL HO0_1); rintro e bx ⟨rfl, hb⟩; have ac := xR HO0_0 hb; have ad := xR HO0_1 hb; have ae := xB aa hb; have af := xB ab hb; have ag := Aside0.mk (Kept.below (S := (fun k_ => P0_0_ k_ ∨ P0_1_ k_)) (by repeat (first | (with_reducible first | exact HK.out | apply Kept.alloc | apply Kept.drewN | apply Kept.drew | refine Kept.setCell ?_ (.inr ai.out) _ | refine Kept.setCell ?_ (.inr an.out) _) | exact HK.out)) hb); have ah := xS HB hb; clear HO0_0; clear HO0_1; clear aa; clear ab; clear HK; clear HB; have HO0_0 := ac; have HO0_1 := ad; have aa := ae; have ab := af; have HK := ag; have HB := ah; clear ac ad ae af ag ah; (try clear hb); (try clear hb2); (try clear hk); (try clear hi); obtain ⟨be, bf, bg, bh⟩ := cz2 ab))
   refine bodyPost_ret (results_ct rfl _ _ aj 26 #[.slice none 0 0, .slice none 0 0] (0, 0) _ rfl (by (with_reducible repeat (first | refine blk_drewN ?_ _ | refine blk_drew ?_ | refine blk_alloc ?_ _)); refine blk_put (cs := #[.slice none 0 0, .slice none 0 0]) ?_ 1 _ rfl; (with_reducible repeat (first | refine blk_drewN ?_ _ | refine blk_drew ?_ | refine blk_alloc ?_ _)); refine blk_put (cs := #[.slice none 0 0, .slice none 0 0]) ?_ 0 _ rfl; (with_reducible repeat (first | refine blk_drewN ?_ _ | refine blk_drew ?_ | refine blk_alloc ?_ _)); exact ab.out) Try.underlying26 rfl (by kernel_rfl)) rfl ?_; exact ⟨_, _, vw, by first | exact Kd.R_nil _ _ _ _ _ | exact Kd.N_nil _ _ _ _ _ | exact Kd.V_nil _ _ _ _ _ | exact Kd.Q_nil _ _ _ _ _ | exact Kd.S_nil _ _ _ _ _, by first | exact Kd.R_nil _ _ _ _ _ | exact Kd.N_nil _ _ _ _ _ | exact Kd.V_nil _ _ _ _ _ | exact Kd.Q_nil _ _ _ _ _ | exact Kd.S_nil _ _ _ _ _, by repeat (first | (with_reducible first | exact HB.out | apply below_alloc | apply pw_below_drewN | apply below_drew1 | refine below_set ?_ ap.out | refine below_set ?_ aq.out) | exact HB.out), by repeat (first | (with_reducible first | exact HK.out | apply Kept.alloc | apply Kept.drewN | apply Kept.drew | refine Kept.setCell ?_ (.inr ai.out) _ | refine Kept.setCell ?_ (.inr an.out) _) | exact HK.out)⟩
 ·replace c3 := Bool.eq_false_iff.mpr c3; subst c3
  have H1 : (some (([] : List Int), ([] : List Int), false)) = some (r1, r2, r3) := by rw [if_neg (show ¬ (false = true) by decide)] at H; exact H
  clear H; have H := H1; clear H1; simp only [Option.some.injEq, Prod.mk.injEq] at H; obtain ⟨rfl, rfl, rfl⟩ := H; obtain ⟨aI, aJ, aK⟩ := Kd.R_slice HO0_0.out; subst aK; obtain ⟨aL, aM, aN⟩ := Kd.R_slice HO0_1.out; subst aN
  go_enter Try.func32, Try.ntmps32
  go_wp2_with (first | ((with_reducible refine gate_dst (N := 2) rfl ?_); refine bx_ 2 #[.slice aI l0_0.length aJ, .slice aL l0_1.length aM] 26 ?_; intro al hg bz hbox hb; have ac := xR HO0_0 hb; have ad := xR HO0_1 hb; have ae := Aside0.mk (Kept.below (S := (fun k_ => P0_0_ k_ ∨ P0_1_ k_)) (by repeat (first | (with_reducible first | exact HK.out | apply Kept.alloc | apply Kept.drewN | apply Kept.drew) | exact HK.out)) hb); have af := xS HB hb; have ag := Aside0.mk (hbox); have ah := Aside0.mk ((by rw [hg]; exact (by first | exact HK.out.1 | exact (show Kept w _ (fun k_ => P0_0_ k_ ∨ P0_1_ k_) from by repeat (first | (with_reducible first | exact HK.out | apply Kept.alloc | apply Kept.drewN | apply Kept.drew) | exact HK.out)).1) : w.heap.size ≤ al)); have ak := Aside0.mk ((by rw [hg]; exact (below_size (zS HB.out)) : w0.heap.size ≤ al)); clear HO0_0; clear HO0_1; clear HK; clear HB; have HO0_0 := ac; have HO0_1 := ad; have HK := ae; have HB := af; have aa := ag; have ai := ah; have ap := ak; clear ac ad ae af ag ah ak; clear hb hbox hg) | ((with_reducible refine gate_dst (N := 4) rfl ?_); refine bx_ 4 #[.slice none 0 0, .slice none 0 0] 26 ?_; intro aj hg bA hbox hb; have ac := xR HO0_0 hb; have ad := xR HO0_1 hb; have ae := xB aa hb; have af := Aside0.mk (Kept.below (S := (fun k_ => P0_0_ k_ ∨ P0_1_ k_)) (by repeat (first | (with_reducible first | exact HK.out | apply Kept.alloc | apply Kept.drewN | apply Kept.drew | refine Kept.setCell ?_ (.inr ai.out) _) | exact HK.out)) hb); have ag := xS HB hb; have ah := Aside0.mk (hbox); have ak := Aside0.mk ((by rw [hg]; exact (by first | exact HK.out.1 | exact (show Kept w _ (fun k_ => P0_0_ k_ ∨ P0_1_ k_) from by repeat (first | (with_reducible first | exact HK.out | apply Kept.alloc | apply Kept.drewN | apply Kept.drew | refine Kept.setCell ?_ (.inr ai.out) _) | exact HK.out)).1) : w.heap.size ≤ aj)); have au := Aside0.mk ((by rw [hg]; exact (below_size (zS HB.out)) : w0.heap.size ≤ aj)); have av := xN aa hg; have aw := xM aa hg; clear HO0_0; clear HO0_1; clear aa; clear HK; clear HB; have HO0_0 := ac; have HO0_1 := ad; have aa := ae; have HK := af; have HB := ag; have ab := ah; have an := ak; have aq := au; have am := av; have ao := aw; clear ac ad ae af ag ah ak au av aw; clear hb hbox hg; obtain ⟨bs, bt⟩ := nn ao; obtain ⟨bi, bj, bk, bl⟩ := cz2 ab))
  refine bodyPost_ret (results_ct rfl _ _ aj 26 #[.slice none 0 0, .slice none 0 0] (0, 0) _ rfl (by (with_reducible repeat (first | refine blk_drewN ?_ _ | refine blk_drew ?_ | refine blk_alloc ?_ _)); refine blk_put (cs := #[.slice none 0 0, .slice none 0 0]) ?_ 1 _ rfl; (with_reducible repeat (first | refine blk_drewN ?_ _ | refine blk_drew ?_ | refine blk_alloc ?_ _)); refine blk_put (cs := #[.slice none 0 0, .slice none 0 0]) ?_ 0 _ rfl; (with_reducible repeat (first | refine blk_drewN ?_ _ | refine blk_drew ?_ | refine blk_alloc ?_ _)); exact ab.out) Try.underlying26 rfl (by kernel_rfl)) rfl ?_; exact ⟨_, _, vw, by first | exact Kd.R_nil _ _ _ _ _ | exact Kd.N_nil _ _ _ _ _ | exact Kd.V_nil _ _ _ _ _ | exact Kd.Q_nil _ _ _ _ _ | exact Kd.S_nil _ _ _ _ _, by first | exact Kd.R_nil _ _ _ _ _ | exact Kd.N_nil _ _ _ _ _ | exact Kd.V_nil _ _ _ _ _ | exact Kd.Q_nil _ _ _ _ _ | exact Kd.S_nil _ _ _ _ _, by repeat (first | (with_reducible first | exact HB.out | apply below_alloc | apply pw_below_drewN | apply below_drew1 | refine below_set ?_ ap.out | refine below_set ?_ aq.out) | exact HB.out), by repeat (first | (with_reducible first | exact HK.out | apply Kept.alloc | apply Kept.drewN | apply Kept.drew | refine Kept.setCell ?_ (.inr ai.out) _ | refine Kept.setCell ?_ (.inr an.out) _) | exact HK.out)⟩

end Go.Proofs.Ytbdcchbhelehcaa.MFnLetters3
