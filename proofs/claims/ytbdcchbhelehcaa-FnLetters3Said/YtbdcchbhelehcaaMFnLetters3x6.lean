-- Written by a program of this session, out of Lean's print of the translation. Not trusted: Lean checks it.
import Derived.Test.YtbdcchbhelehcaaMFnLetters3x0
import Derived.Test.YtbdcchbhelehcaaMFnLetters3x1
import Derived.Test.YtbdcchbhelehcaaMFnLetters3x3
import Derived.Test.YtbdcchbhelehcaaMFnLetters3x4
import Derived.Test.YtbdcchbhelehcaaMFnLetters3x5
namespace Go.Proofs.Ytbdcchbhelehcaa.MFnLetters3
open Go.RowKit Go.Proofs.YtbdcchbhelehcaaW.PrintWords Go.Proofs.YtbdcchbhelehcaaW.PrintLast Go.Proofs.YtbdcchbhelehcaaW.PrintMore Go.Proofs.Ytbdcchbhelehcaa.Short6
attribute [local go_sem] max2_int min2_int max_two min_two max_three min_three max_four min_four   -- for this text's walks alone
set_option linter.unusedVariables false
set_option linter.unusedSimpArgs false

section
open Go.Proofs.Ytbdcchbhelehcaa.Short2.T
abbrev impl_WordTail.bl0 : Array Bool := #[f, f, f, f, f, f, f, f, f, f]
abbrev impl_WordTail.bl1 : Array Bool := #[t, f, f, f, f, f, f, f, f, f]
abbrev impl_WordTail.bl2 : Array Bool := #[t, f, t, f, f, f, f, f, f, f]
abbrev impl_WordTail.bl3 : Array Bool := #[t, f, t, f, t, f, f, f, f, f]
abbrev impl_WordTail.bl4 : Array Bool := #[t, t, t, f, t, f, f, f, f, f]
abbrev impl_WordTail.bl5 : Array Bool := #[t, t, t, t, t, f, f, f, f, f]
abbrev impl_WordTail.bl6 : Array Bool := #[t, t, t, t, t, t, f, f, f, f]
abbrev impl_WordTail.bl7 : Array Bool := #[t, t, t, t, t, t, t, f, f, f]
abbrev impl_WordTail.bl8 : Array Bool := #[t, t, t, t, t, t, t, t, f, f]
abbrev impl_WordTail.bl9 : Array Bool := #[t, t, t, t, t, t, t, t, t, f]
abbrev impl_WordTail.bl10 : Array Bool := #[t, t, t, t, t, t, t, t, t, t]
abbrev impl_WordTail.bl11 : Array Bool := #[f, f, f, f, f, f, f, f, f, f, f, f, f]
abbrev impl_WordTail.bl12 : Array Bool := #[t, f, f, f, f, f, f, f, f, f, f, f, f]
abbrev impl_WordTail.bl13 : Array Bool := #[t, f, t, f, f, f, f, f, f, f, f, f, f]
abbrev impl_WordTail.bl14 : Array Bool := #[t, f, t, f, t, f, f, f, f, f, f, f, f]
abbrev impl_WordTail.bl15 : Array Bool := #[t, f, t, f, t, f, t, f, f, f, f, f, f]
abbrev impl_WordTail.bl16 : Array Bool := #[t, t, t, f, t, f, t, f, f, f, f, f, f]
abbrev impl_WordTail.bl17 : Array Bool := #[t, t, t, t, t, f, t, f, f, f, f, f, f]
abbrev impl_WordTail.bl18 : Array Bool := #[t, t, t, t, t, t, t, f, f, f, f, f, f]
abbrev impl_WordTail.bl19 : Array Bool := #[t, t, t, t, t, t, t, t, f, f, f, f, f]
abbrev impl_WordTail.bl20 : Array Bool := #[t, t, t, t, t, t, t, t, t, f, f, f, f]
abbrev impl_WordTail.bl21 : Array Bool := #[t, t, t, t, t, t, t, t, t, t, f, f, f]
abbrev impl_WordTail.bl22 : Array Bool := #[t, t, t, t, t, t, t, t, t, t, t, f, f]
abbrev impl_WordTail.bl23 : Array Bool := #[t, t, t, t, t, t, t, t, t, t, t, t, f]
abbrev impl_WordTail.bl24 : Array Bool := #[t, t, t, t, t, t, t, t, t, t, t, t, t]
end
/-! ### impl_WordTail: function 14 -/
def impl_WordTail.j0 : Nat → Int → Bool → List Int → List Int → Option (List Int × List Int × Bool)
 | 0, _, _, _, _ => none
 | k + 1, x1, x14, x432000, x432001 => if x14 = true then (some (([] : List Int), ([] : List Int), false)) else (if x1 < (x432000.length : Int) then (if 0 ≤ x1 then (if x1 ≤ (x432000.length : Int) then ((impl_copyWord.f (x432000.drop (x1 : Int).toNat) x432001).bind fun bt436 => (some (bt436.1, bt436.2, true))) else (none)) else (none)) else (if (x432001.length : Int) = 0 then (none) else (if 0 ≤ (Int.tmod (wrap64 (x1 - (x432000.length : Int))) (x432001.length : Int)) then (if (Int.tmod (wrap64 (x1 - (x432000.length : Int))) (x432001.length : Int)) ≤ (x432001.length : Int) then ((slices_Concat_int_int.f k (([(x432001.drop ((Int.tmod (wrap64 (x1 - (x432000.length : Int))) (x432001.length : Int)) : Int).toNat), (x432001.take ((Int.tmod (wrap64 (x1 - (x432000.length : Int))) (x432001.length : Int)) : Int).toNat)] : List (List Int)))).bind fun t455 => (some (([] : List Int), t455, true))) else (none)) else (none))))
def impl_WordTail.f (k : Nat) (l0_0 : List Int) (l0_1 : List Int) (a1 : Int) : Option (List Int × List Int × Bool) := (impl_inRange.f a1 0 1000000).bind fun t433 => (if t433 = true then ((impl_isRight.f k l0_0 l0_1).bind fun t434 => (impl_WordTail.j0 k a1 (!t434) l0_0 l0_1)) else (impl_WordTail.j0 k a1 true l0_0 l0_1))
theorem impl_WordTail.mono_l : ∀ k, (∀ y0 y1 y2 y3, LeO (impl_WordTail.j0 k y0 y1 y2 y3) (impl_WordTail.j0 (k + 1) y0 y1 y2 y3))
 | 0 => fun _ _ _ _ r h => by simp [impl_WordTail.j0] at h
 | k + 1 => by
  have ih0 := impl_WordTail.mono_l k
  ·intro y0 y1 y2 y3
   unfold impl_WordTail.j0
   repeat' first
   | (with_reducible exact ih0 _ _ _ _)
   | (with_reducible exact impl_isRight.mono _ _ _)
   | (with_reducible exact slices_Concat_int_int.mono _ _)
   | (with_reducible exact LeO.refl _)
   | (with_reducible exact LeO.none _)
   | (with_reducible refine LeO.ite ?_ ?_)
   | (with_reducible refine LeO.bind ?_ (fun _ => ?_))
   | exact ih0 _ _ _ _
   | exact impl_isRight.mono _ _ _
   | exact slices_Concat_int_int.mono _ _
   | exact LeO.none _
   | refine LeO.ite ?_ ?_
   | refine LeO.bind ?_ (fun _ => ?_)
theorem impl_WordTail.mono : ∀ a0 a1 a2 k, LeO (impl_WordTail.f k a0 a1 a2) (impl_WordTail.f (k + 1) a0 a1 a2) := by
 intro a0 a1 a2 k
 have ih0 := impl_WordTail.mono_l k
 unfold impl_WordTail.f
 repeat' first
   | (with_reducible exact ih0 _ _ _ _)
   | (with_reducible exact impl_isRight.mono _ _ _)
   | (with_reducible exact slices_Concat_int_int.mono _ _)
   | (with_reducible exact LeO.refl _)
   | (with_reducible exact LeO.none _)
   | (with_reducible refine LeO.ite ?_ ?_)
   | (with_reducible refine LeO.bind ?_ (fun _ => ?_))
   | exact ih0 _ _ _ _
   | exact impl_isRight.mono _ _ _
   | exact slices_Concat_int_int.mono _ _
   | exact LeO.none _
   | refine LeO.ite ?_ ?_
   | refine LeO.bind ?_ (fun _ => ?_)
def impl_WordTail.T4 : Bool × List (List Nat × List Nat) := (true, [([], []), ([0], [0]), ([], []), ([1, 2], [1, 2]), ([], []), ([4], [4]), ([3, 5], [3, 5]), ([6], [6]), ([7, 7, 0, 1, 2, 3, 4, 5, 6, 7], [7]), ([8, 0, 1, 2, 3, 4, 5, 6, 7, 8], [])])
def impl_WordTail.B4 : List Nat := [0, 1, 0, 7, 0, 16, 63, 127, 255, 511]
theorem impl_WordTail.tab4 : rtab .any (opsOf Try.f14 4) = impl_WordTail.T4 := by kernel_rfl
theorem impl_WordTail.bits4 : waitsOk impl_WordTail.T4.2 impl_WordTail.B4 = true := by kernel_rfl
def impl_WordTail.T6 : Bool × List (List Nat × List Nat) := (true, [([], []), ([0], [0]), ([], []), ([1, 2], [1, 2]), ([], []), ([4], [4]), ([], []), ([5, 6], [5, 6]), ([3, 7], [3, 7]), ([8], [8]), ([9], [9]), ([10, 9, 0, 1, 2, 3, 4, 5, 6, 7, 8, 9, 10], [10]), ([11, 0, 1, 2, 3, 4, 5, 6, 7, 8, 9, 10, 11], [])])
def impl_WordTail.B6 : List Nat := [0, 1, 0, 7, 0, 16, 0, 112, 255, 511, 1023, 2047, 4095]
theorem impl_WordTail.tab6 : rtab .any (opsOf Try.f14 6) = impl_WordTail.T6 := by kernel_rfl
theorem impl_WordTail.bits6 : waitsOk impl_WordTail.T6.2 impl_WordTail.B6 = true := by kernel_rfl
open Go.Proofs.Ytbdcchbhelehcaa.Short2 in
set_option maxHeartbeats 8000000 in
set_option maxRecDepth 100000 in
theorem impl_WordTail.calls (k : Nat) (A0_0 : Option Addr) (c0_0 : Nat) (l0_0 : List Int) (P0_1_ : Nat → Prop) (A0_1 : Option Addr) (c0_1 : Nat) (l0_1 : List Int) (a1 : Int) (r1 : List Int) (r2 : List Int) (r3 : Bool) (w : World) (hr0_0 : Kd.C (Kd.int .i64) w A0_0 l0_0.length l0_0) (hc0_0 : l0_0.length ≤ c0_0) (hs0_1 : Kd.V (Kd.int .i64) 3 w w.heap.size (fun k_ => P0_1_ k_) (.slice A0_1 l0_1.length c0_1) l0_1) (h : impl_WordTail.f k l0_0 l0_1 a1 = some (r1, r2, r3)) :
  Calls Try.prog 14 #[.agg #[.slice A0_0 l0_0.length c0_0, .slice A0_1 l0_1.length c0_1], .int .i64 a1] w fun e w' => ∃ v0_ v1_ : Value, e = .returned (.tuple #[.agg #[v0_, v1_], .bool r3]) ∧ Kd.R (Kd.int .i64) 3 w' w.heap.size (fun k_ => (w.heap.size ≤ k_) ∧ some k_ ≠ (v1_ : Value).ownBlock) v0_ r1 ∧ Kd.R (Kd.int .i64) 3 w' w.heap.size (fun k_ => (w.heap.size ≤ k_) ∧ some k_ ≠ (v0_ : Value).ownBlock) v1_ r2 ∧ Below w.heap.size w w' := by
 have hu26 := Try.underlying26; have HR0_0 := Aside0.mk hr0_0; have HC0_0 := Aside0.mk hc0_0; clear hr0_0 hc0_0; have HO0_1 := Aside0.mk (show Kd.V (Kd.int .i64) 3 w w.heap.size (fun k_ => (P0_1_ k_ ∨ w.heap.size ≤ k_)) (.slice A0_1 l0_1.length c0_1) l0_1 from Kd.V_mono hs0_1 (fun k_ hk => .inl hk)); have HB := Aside0.mk (Below.refl w.heap.size w); have H : ((impl_inRange.f a1 0 1000000).bind fun aw => (if aw = true then ((impl_isRight.f k l0_0 l0_1).bind fun ak => (impl_WordTail.j0 k a1 (!ak) l0_0 l0_1)) else (impl_WordTail.j0 k a1 true l0_0 l0_1))) = some (r1, r2, r3) := h; clear h; have HC3 := Aside0.mk H; clear H
 go_enter Try.func14, Try.ntmps14
 go_upto_region 1 with (first | ((with_reducible refine gate_dst (N := 2) rfl ?_); refine bx_ 2 #[.slice A0_0 l0_0.length c0_0, .slice A0_1 l0_1.length c0_1] 26 ?_; intro af hg w4 hbox hb; replace HO0_1 := Aside0.mk (Kd.V_below (Kd.V_elderB (by (with_reducible repeat (first | apply Kd.V_alloc | apply Kd.V_drewN | apply Kd.V_drew)); exact HO0_1.out) af (Nat.le_of_eq hg.symm)) hb); have aa := Aside0.mk (hbox); have bN := xG HB hg; have bO := xG HB hg; replace HB := xS HB hb; clear hb hbox hg) | ((with_reducible refine gate_dst (N := 4) rfl ?_); refine bx_ 4 #[.slice none 0 0, .slice none 0 0] 26 ?_; intro ae hg w5 hbox hb; replace HO0_1 := Aside0.mk (Kd.V_below (Kd.V_elderB (by (with_reducible repeat (first | apply Kd.V_alloc | apply Kd.V_drewN | apply Kd.V_drew)); exact HO0_1.out) ae (Nat.le_of_eq hg.symm)) hb); have ac := Aside0.mk (hbox); have bP := xG HB hg; have bQ := xG HB hg; replace HB := xS HB hb; have ad := xN aa hg; have ai := xM aa hg; replace aa := xB aa hb; clear hb hbox hg))
 (try simp only [Act.put, q3])
 go_cut [14] (fun bH wc => ∃ (kq : Nat) (ar : Bool), bH = .bool ar ∧ Aside0 (impl_WordTail.j0 kq a1 ar l0_0 l0_1 = some (r1, r2, r3)) ∧ Aside0 (kq ≤ k) ∧ Aside0 (Kd.V (Kd.int .i64) 3 wc w.heap.size (fun k_ => (P0_1_ k_ ∨ w.heap.size ≤ k_) ∧ k_ ≠ af ∧ k_ ≠ ae) (.slice A0_1 l0_1.length c0_1) l0_1) ∧ Aside0 (wc.heap[af]? = some (.cells #[(.slice A0_0 l0_0.length c0_0), (.slice A0_1 l0_1.length c0_1)] 26 (0, 0))) ∧ Aside0 (wc.heap[ae]? = some (.cells #[(.slice none 0 0), (.slice none 0 0)] 26 (0, 0))) ∧ Aside0 (Below w.heap.size w wc))
 case first =>
  have H := HC3.out; clear HC3; replace H := bI H; obtain ⟨aw, bc, H⟩ := H; replace H : (if aw = true then ((impl_isRight.f k l0_0 l0_1).bind fun ak => (impl_WordTail.j0 k a1 (!ak) l0_0 l0_1)) else (impl_WordTail.j0 k a1 true l0_0 l0_1)) = some (r1, r2, r3) := H; have A6 := Aside0.mk bc; clear bc
  by_cases c7 : aw = true
  ·subst c7
   have H1 : ((impl_isRight.f k l0_0 l0_1).bind fun ak => (impl_WordTail.j0 k a1 (!ak) l0_0 l0_1)) = some (r1, r2, r3) := by rw [if_pos rfl] at H; exact H
   clear H; have H := H1; clear H1; replace H := bI H; obtain ⟨ak, bd, H⟩ := H; replace H : (impl_WordTail.j0 k a1 (!ak) l0_0 l0_1) = some (r1, r2, r3) := H; have A8 := Aside0.mk bd; clear bd; have H' := Aside0.mk H; clear H
   go_wp2_with (first | ((with_reducible refine gate_callee (f := 31) rfl ?_); refine gl_ (some 8) Try.func31 #[.int .i64 a1, .int .i64 0, .int .i64 1000000] ?_; (with_reducible refine (impl_inRange.calls a1 0 1000000 true _ A6.out).mono ?_); rintro e w' ⟨rfl, ⟨nd, rfl⟩⟩; refine ⟨_, rfl, ?_⟩; obtain ⟨co, cp⟩ := nn ad; obtain ⟨aP, aQ, aR, aS⟩ := cz2 aa) | (go_at_call 23; (with_reducible refine (impl_isRight.calls k _ _ l0_0 _ _ l0_1 ak _ ?side1 ?side2 ?side3 ?side4 A8.out).mono ?_); (case side1 => repeat (first | exact (Kd.C_below HR0_0.out (zS HB.out)) | (with_reducible refine Kd.C_alloc ?_ _) | (with_reducible refine Kd.C_drewN ?_ _) | (with_reducible refine Kd.C_drew ?_))); (case side2 => exact HC0_0.out); (case side3 => exact zC (Kd.V_reads' HO0_1.out).2.2); (case side4 => exact (Kd.V_reads' HO0_1.out).2.1); rintro e cz ⟨rfl, hb⟩; replace HO0_1 := Aside0.mk (Kd.V_below (by (with_reducible repeat (first | apply Kd.V_alloc | apply Kd.V_drewN | apply Kd.V_drew)); exact HO0_1.out) hb); replace aa := xB aa hb; replace ac := xB ac hb; replace HB := xS HB hb; (try clear hb); (try clear hb2); (try clear hk); (try clear hi)))
   go_meet
   case rel => exact ⟨_, (!ak), vv, H', ⟨by first | omega | exact Nat.le_refl _⟩, ⟨by (with_reducible repeat (first | apply Kd.V_alloc | apply Kd.V_drewN | apply Kd.V_drew)); exact Kd.V_mono HO0_1.out (fun _ hk => ⟨hk.1.1, ⟨hk.1.2, hk.2⟩⟩)⟩, ⟨zB aa.out⟩, ⟨zB ac.out⟩, ⟨zS HB.out⟩⟩
  ·replace c7 := Bool.eq_false_iff.mpr c7; subst c7
   have H1 : (impl_WordTail.j0 k a1 true l0_0 l0_1) = some (r1, r2, r3) := by rw [if_neg (show ¬ (false = true) by decide)] at H; exact H
   clear H; have H := H1; clear H1; have H' := Aside0.mk H; clear H
   go_wp2_with (first | ((with_reducible refine gate_callee (f := 31) rfl ?_); refine gl_ (some 8) Try.func31 #[.int .i64 a1, .int .i64 0, .int .i64 1000000] ?_; (with_reducible refine (impl_inRange.calls a1 0 1000000 false _ A6.out).mono ?_); rintro e w' ⟨rfl, ⟨nd, rfl⟩⟩; refine ⟨_, rfl, ?_⟩))
   go_meet
   case rel => exact ⟨_, (true), vv, H', ⟨by first | omega | exact Nat.le_refl _⟩, ⟨by (with_reducible repeat (first | apply Kd.V_alloc | apply Kd.V_drewN | apply Kd.V_drew)); exact Kd.V_mono HO0_1.out (fun _ hk => ⟨hk.1.1, ⟨hk.1.2, hk.2⟩⟩)⟩, ⟨zB aa.out⟩, ⟨zB ac.out⟩, ⟨zS HB.out⟩⟩
 case rest =>
  clear HC3
  try clear c1
  try clear p2
  try clear c3
  try clear c7
  try clear c9
  try clear aP aQ aR aS
  obtain ⟨kq, ar, rfl, HA, HJ2, ab, aa, ac, HB⟩ := hcut
  cases kq with
  | zero => exact absurd HA.out (by simp [impl_WordTail.j0])
  | succ kj2 =>
   have H := HA.out; clear HA; simp only [impl_WordTail.j0] at H
   by_cases aG : ar = true
   ·subst aG
    have H1 : (some (([] : List Int), ([] : List Int), false)) = some (r1, r2, r3) := by rw [if_pos rfl] at H; exact H
    clear H; have H := H1; clear H1; simp only [Option.some.injEq, Prod.mk.injEq] at H; obtain ⟨rfl, rfl, rfl⟩ := H; obtain ⟨bR, bS⟩ := nn ai; obtain ⟨bm, bn, bo, bp⟩ := cz2 ac
    go_wp2
    refine bodyPost_ret (results_ct rfl _ _ ae 26 #[.slice none 0 0, .slice none 0 0] (0, 0) _ rfl (by (with_reducible repeat (first | refine blk_drewN ?_ _ | refine blk_drew ?_ | refine blk_alloc ?_ _)); refine blk_put (cs := #[.slice none 0 0, .slice none 0 0]) ?_ 1 _ rfl; (with_reducible repeat (first | refine blk_drewN ?_ _ | refine blk_drew ?_ | refine blk_alloc ?_ _)); refine blk_put (cs := #[.slice none 0 0, .slice none 0 0]) ?_ 0 _ rfl; (with_reducible repeat (first | refine blk_drewN ?_ _ | refine blk_drew ?_ | refine blk_alloc ?_ _)); exact ac.out) Try.underlying26 rfl (by kernel_rfl)) rfl ?_; exact ⟨_, _, vw, by first | exact Kd.R_nil _ _ _ _ _ | exact Kd.N_nil _ _ _ _ _ | exact Kd.V_nil _ _ _ _ _ | exact Kd.Q_nil _ _ _ _ _ | exact Kd.S_nil _ _ _ _ _, by first | exact Kd.R_nil _ _ _ _ _ | exact Kd.N_nil _ _ _ _ _ | exact Kd.V_nil _ _ _ _ _ | exact Kd.Q_nil _ _ _ _ _ | exact Kd.S_nil _ _ _ _ _, zS HB.out⟩
   ·replace aG := Bool.eq_false_iff.mpr aG; subst aG
    have H1 : (if a1 < (l0_0.length : Int) then (if 0 ≤ a1 then (if a1 ≤ (l0_0.length : Int) then ((impl_copyWord.f (l0_0.drop (a1 : Int).toNat) l0_1).bind fun bt436 => (some (bt436.1, bt436.2, true))) else (none)) else (none)) else (if (l0_1.length : Int) = 0 then (none) else (if 0 ≤ (Int.tmod (wrap64 (a1 - (l0_0.length : Int))) (l0_1.length : Int)) then (if (Int.tmod (wrap64 (a1 - (l0_0.length : Int))) (l0_1.length : Int)) ≤ (l0_1.length : Int) then ((slices_Concat_int_int.f kj2 (([(l0_1.drop ((Int.tmod (wrap64 (a1 - (l0_0.length : Int))) (l0_1.length : Int)) : Int).toNat), (l0_1.take ((Int.tmod (wrap64 (a1 - (l0_0.length : Int))) (l0_1.length : Int)) : Int).toNat)] : List (List Int)))).bind fun ah => (some (([] : List Int), ah, true))) else (none)) else (none)))) = some (r1, r2, r3) := by rw [if_neg (show ¬ (false = true) by decide)] at H; exact H
    clear H; have H := H1; clear H1
    by_cases av : a1 < (l0_0.length : Int)
    ·rw [if_pos av] at H; have bb : decide (a1 < (l0_0.length : Int)) = true := decide_eq_true av; clear av
     by_cases ay : 0 ≤ a1
     ·rw [if_pos ay] at H; have bT := eq_true ay; have bU : decide (0 ≤ a1) = true := decide_eq_true ay; clear ay
      by_cases az : a1 ≤ (l0_0.length : Int)
      ·rw [if_pos az] at H; have bV := eq_true az; have bW : decide (a1 ≤ (l0_0.length : Int)) = true := decide_eq_true az; clear az; replace H := bI H; obtain ⟨⟨ax, aD⟩, aT, H⟩ := H; replace H : (some (ax, aD, true)) = some (r1, r2, r3) := H; have bJ := Aside0.mk aT; clear aT; simp only [Option.some.injEq, Prod.mk.injEq] at H; obtain ⟨rfl, rfl, rfl⟩ := H; obtain ⟨bX, bY⟩ := nn ad; obtain ⟨bq, br, bs, bt⟩ := cz2 aa
       try go_wp2
       replace ab := Aside0.mk (Kd.V_drew ab.out); replace aa := Aside0.mk (blk_drew aa.out); replace ac := Aside0.mk (blk_drew ac.out); replace HB := Aside0.mk (below_drew1 HB.out); obtain ⟨i022, hi022, _, hsz22, _⟩ := info_parts info3; obtain ⟨bK, hcut22, hA22, hC22⟩ := print_drop_of (P := Try.prog) (Value.int .i64) 0 24 3 .i64 Try.underlying24 hi022 hsz22 A0_0 c0_0 l0_0 a1 (oD) (oD) HC0_0.out; have HR435 := Aside0.mk (Kd.C_of_reads (h1 := fun _ => rfl) (hA22 _ (Kd.reads_of_C HR0_0.out))); have HC435 := Aside0.mk hC22; clear hA22 hC22 hi022 hsz22; refine start_ (n := 10) (S := fun w' => w'.cell? ⟨af, 0, none⟩ = some (.slice A0_0 l0_0.length c0_0) ∧ w'.cell? ⟨af, 1, none⟩ = some (.slice A0_1 l0_1.length c0_1)) (ds := []) bl0 (by kernel_rfl) rfl rfl ⟨b1 aa 0, b1 aa 1⟩ (fun hHeld => ?_); refine with_tabW impl_WordTail.tab4 impl_WordTail.bits4 (fun HT_ HW_ => ?_); generalize wc.drew = cA at ab aa ac HB HR435 hHeld ⊢
       refine pv_ 0 (some 21) bl1 HT_ ?_
       refine pv_ 2 (some 23) bl2 HT_ ?_
       refine pv_ 4 (some 25) bl3 HT_ ?_
       refine tk_ 1 (some 22) bl4 HT_ HW_ hHeld ?_
       refine pv_ 3 (some 24) bl5 HT_ ?_
       refine tk_ 5 (some 26) bl6 HT_ HW_ hHeld ?_
       refine pv_ 6 (some 27) bl7 HT_ ?_
       refine on_ 7 (some 28) bl8 HT_ (fun K hK => ?_); refine goes_ Try.func36 (by kernel_rfl) rfl #[.agg #[.slice bK (l0_0.drop (a1 : Int).toNat).length (c0_0 - a1.toNat), .slice A0_1 l0_1.length c0_1]] (by rfl) rfl rfl (by (try simp only [m3]); first | done | (rw [show (l0_0.drop (a1 : Int).toNat).length = (l0_0.length - a1.toNat) from List.length_drop] <;> rfl) | rfl | (simp only [d2]; rfl)) ?_
       with_reducible refine (impl_copyWord.calls _ _ (l0_0.drop (a1 : Int).toNat) _ _ l0_1 ax aD _ ?side1 ?side2 ?side3 ?side4 bJ.out).mono ?_
       (case side1 => exact zC (Kd.C_below HR435.out HB.out))
       (case side2 => exact HC435.out)
       (case side3 => exact zC (Kd.V_reads' ab.out).2.2)
       (case side4 => exact (Kd.V_reads' ab.out).2.1)
       rintro e be ⟨cq, cr, rfl, ho0, ho1, hb⟩; refine ⟨_, rfl, ?_⟩; replace ab := Aside0.mk (Kd.V_mono (Kd.V_told (Kd.V_told (Kd.V_old (by (with_reducible repeat (first | apply Kd.V_alloc | apply Kd.V_drewN | apply Kd.V_drew)); exact ab.out) hb) (Kd.R_base ho0)) (Kd.R_base ho1)) (fun _ h_ => h_.1)); have aH := Aside0.mk (Kd.R_lower (Kd.R_newM (M := fun k_ => (w.heap.size ≤ k_)) ho0 (below_size (zS HB.out)) (fun k_ h_ => h_)) (below_size (zS HB.out))); have aI := Aside0.mk (Kd.R_lower (Kd.R_newM (M := fun k_ => (w.heap.size ≤ k_)) ho1 (below_size (zS HB.out)) (fun k_ h_ => h_)) (below_size (zS HB.out))); replace aa := xB aa hb; replace ac := xB ac hb; replace HB := xS HB hb
       (try clear hb)
       (try clear hb2)
       (try clear hk)
       (try clear hi)
       (try clear ho0)
       (try clear ho1)
       obtain ⟨aU, aV, aW⟩ := Kd.R_slice aH.out
       (first | subst aW | (injection aW with f1_ f2_ f3_; have f4_ := f1_.symm; have f5_ := f3_.symm; clear f1_ f2_ f3_; subst f4_; subst f5_))
       obtain ⟨bg, bh, aX⟩ := Kd.R_slice aI.out
       (first | subst aX | (injection aX with f1_ f2_ f3_; have f4_ := f1_.symm; have f5_ := f3_.symm; clear f1_ f2_ f3_; subst f4_; subst f5_))
       refine hK.out _ _ ⟨b1 aa 0, b1 aa 1⟩ (fun hHeld => ?_); clear hK K; refine nr_ (some 28) ?_
       refine on_ 8 (none) bl9 HT_ (fun K hK => ?_); have ct : be.cell? ⟨ae, 0, none⟩ = some (.slice none 0 0) := b1 ac 0; have bZ := blk_frozen ac.out 0; have bu := ad.out; have bv := ai.out; have cu : be.cell? ⟨ae, 1, none⟩ = some (.slice none 0 0) := b1 ac 1; have ca := blk_frozen ac.out 1; have bw := ad.out; have bx := ai.out; refine skip_ (w1 := ?_) (by rfl) rfl ?_ ?_; rotate_left
       ·go_simp; rfl
       refine hK.out _ _ ⟨(cf2 (hHeld.1) ad.out), (cf2 (hHeld.2) ad.out)⟩ (fun hHeld => ?_); clear hK K
       refine pv_ 9 (some 5) bl10 HT_ ?_
       refine done_ (done_of HT_.out (by kernel_rfl)) ?_
       try go_wp2
       refine bodyPost_ret (results_ct rfl _ _ ae 26 #[.slice aU ax.length aV, .slice bg aD.length bh] (0, 0) _ rfl (by (with_reducible repeat (first | refine blk_drewN ?_ _ | refine blk_drew ?_ | refine blk_alloc ?_ _)); refine blk_put (cs := #[.slice aU ax.length aV, .slice none 0 0]) ?_ 1 _ rfl; (with_reducible repeat (first | refine blk_drewN ?_ _ | refine blk_drew ?_ | refine blk_alloc ?_ _)); refine blk_put (cs := #[.slice none 0 0, .slice none 0 0]) ?_ 0 _ rfl; (with_reducible repeat (first | refine blk_drewN ?_ _ | refine blk_drew ?_ | refine blk_alloc ?_ _)); exact ac.out) Try.underlying26 rfl (by kernel_rfl)) rfl ?_; exact ⟨_, _, vw, rM (Aside0.mk (yF2 aH ac)) (fun _ hk => ⟨hk.1.1, hk.1.2⟩), by (with_reducible repeat (first | apply Kd.R_alloc | apply Kd.R_drewN | apply Kd.R_drew)); exact Kd.R_mono (yF2 aI ac) (fun _ hk => ⟨hk.1.1, hk.1.2⟩), zS HB.out⟩
      ·rw [if_neg az] at H; exact absurd H (by simp)
     ·rw [if_neg ay] at H; exact absurd H (by simp)
    ·rw [if_neg av] at H; have bb : decide (a1 < (l0_0.length : Int)) = false := decide_eq_false av; clear av
     by_cases aA : (l0_1.length : Int) = 0
     ·rw [if_pos aA] at H; exact absurd H (by simp)
     ·rw [if_neg aA] at H; have cb : ((l0_1.length : Int) == 0) = false := beq_eq_false_iff_ne.mpr aA; have cc : ((l0_1.length : Int) != 0) = true := bne_iff_ne.mpr aA; have cd : ¬ (l0_1 = []) := fun h_ => aA (by rw [h_]; rfl); obtain ⟨ji29, hji29⟩ : ∃ j_ : Int, (Int.tmod (wrap64 (a1 - (l0_0.length : Int))) (l0_1.length : Int)) = j_ := ⟨_, rfl⟩
      replace H : (if 0 ≤ (ji29) then (if (ji29) ≤ (l0_1.length : Int) then ((slices_Concat_int_int.f kj2 (([(l0_1.drop ((ji29) : Int).toNat), (l0_1.take ((ji29) : Int).toNat)] : List (List Int)))).bind fun ah => (some (([] : List Int), ah, true))) else (none)) else (none)) = some (r1, r2, r3) := by first | (rw [hji29] at H; exact H) | (simp only [hji29] at H ⊢; exact H)
      by_cases aB : 0 ≤ (ji29)
      ·rw [if_pos aB] at H; have ce := eq_true aB; have cf : decide (0 ≤ (ji29)) = true := decide_eq_true aB; clear aB
       by_cases aC : (ji29) ≤ (l0_1.length : Int)
       ·rw [if_pos aC] at H; have cg := eq_true aC; have ch : decide ((ji29) ≤ (l0_1.length : Int)) = true := decide_eq_true aC; clear aC; obtain ⟨ag, an⟩ : ∃ y_ : List Int, y_ = (l0_1.drop ((ji29) : Int).toNat) := ⟨_, rfl⟩
        replace H : ((slices_Concat_int_int.f kj2 (([ag, (l0_1.take ((ji29) : Int).toNat)] : List (List Int)))).bind fun ah => (some (([] : List Int), ah, true))) = some (r1, r2, r3) := by first | (rw [an]; with_reducible exact H) | (have H2_ := (Option.bind_some _ _).symm.trans H; rw [an]; with_reducible exact H2_) | (have H2_ := (Option.bind_some _ _).symm.trans H; with_reducible exact H2_) | with_reducible exact H | (rw [an]; exact H) | exact H
        have aJ := Aside0.mk an; clear an; have ci := eq_true (oD : 0 ≤ (ji29)); have cj := eq_true (oD : (ji29) ≤ (l0_1.length : Int)); obtain ⟨aj, ao⟩ : ∃ y_ : List Int, y_ = (l0_1.take ((ji29) : Int).toNat) := ⟨_, rfl⟩
        replace H : ((slices_Concat_int_int.f kj2 (([ag, aj] : List (List Int)))).bind fun ah => (some (([] : List Int), ah, true))) = some (r1, r2, r3) := by first | (rw [ao]; with_reducible exact H) | (have H2_ := (Option.bind_some _ _).symm.trans H; rw [ao]; with_reducible exact H2_) | (have H2_ := (Option.bind_some _ _).symm.trans H; with_reducible exact H2_) | with_reducible exact H | (rw [ao]; exact H) | exact H
        have aK := Aside0.mk ao; clear ao; obtain ⟨aE, ap⟩ : ∃ y_ : List (List Int), y_ = (([ag, aj] : List (List Int))) := ⟨_, rfl⟩
        replace H : ((slices_Concat_int_int.f kj2 aE).bind fun ah => (some (([] : List Int), ah, true))) = some (r1, r2, r3) := by first | (rw [ap]; with_reducible exact H) | (have H2_ := (Option.bind_some _ _).symm.trans H; rw [ap]; with_reducible exact H2_) | (have H2_ := (Option.bind_some _ _).symm.trans H; with_reducible exact H2_) | with_reducible exact H | (rw [ap]; exact H) | exact H
        have aL := Aside0.mk ap; clear ap; replace H := bI H; obtain ⟨ah, aY, H⟩ := H; replace H : (some (([] : List Int), ah, true)) = some (r1, r2, r3) := H; have bL := Aside0.mk aY; clear aY; simp only [Option.some.injEq, Prod.mk.injEq] at H; obtain ⟨rfl, rfl, rfl⟩ := H; obtain ⟨ck, cl⟩ := nn ad; obtain ⟨bz, bA, bB, bC⟩ := cz2 aa
        try go_wp2
        replace ab := Aside0.mk (Kd.V_drew ab.out); replace aa := Aside0.mk (blk_drew aa.out); replace ac := Aside0.mk (blk_drew ac.out); replace HB := Aside0.mk (below_drew1 HB.out); have q38 : ((ji29) : Int) ≤ ((l0_1.length : Int) : Int) := oD; obtain ⟨i038, hi038, _, hsz38, _⟩ := info_parts info3; have hroom38 : l0_1.length ≤ c0_1 := (Kd.V_reads' ab.out).2.1; have hC38 : Kd.F (Kd.int .i64) _ _ A0_1 l0_1.length l0_1 := (Kd.V_at (base := w.heap.size) ab.out).2.2; have q038 : (0 : Int) ≤ ((ji29) : Int) := oD; have hcut38 := cut_from (P := Try.prog) 24 3 .i64 Try.underlying24 hi038 1 hsz38 A0_1 l0_1.length c0_1 (ji29) q038 q38; have hr38 := Kd.F_cut (m := ((ji29) : Int).toNat) (c := c0_1) hC38 (by omega) hroom38; obtain ⟨aM, hA38⟩ : ∃ A1, A1 = (if c0_1 = ((ji29) : Int).toNat then A0_1 else (A0_1 : Option Addr).map (·.add (((ji29) : Int).toNat * 1))) := ⟨_, rfl⟩; obtain ⟨aN, hc38⟩ : ∃ c1, c1 = c0_1 - ((ji29) : Int).toNat := ⟨_, rfl⟩; have au : ag.length = l0_1.length - ((ji29) : Int).toNat := (by rw [aJ.out, List.length_drop] <;> omega); rw [show (l0_1).drop ((ji29) : Int).toNat = ag from aJ.out.symm] at hr38; replace hr38 : Kd.F (Kd.int .i64) _ _ aM ag.length ag := (by rw [hA38]; exact hr38); rw [← au, ← hA38, ← hc38] at hcut38; have al := Aside0.mk (show Kd.V (Kd.int .i64) 3 _ w.heap.size _ (.slice aM ag.length aN) ag from Kd.V_mk (by rw [au, hc38]; exact Nat.sub_le_sub_right hroom38 _) hr38); have HC446 := Aside0.mk (show ag.length ≤ aN from by rw [au, hc38]; exact Nat.sub_le_sub_right hroom38 _); clear hr38 hC38 hroom38 hi038 hsz38 hc38; have KY38 := Aside0.mk au; have KA38 := Aside0.mk hA38; clear au hA38; replace q38 := eq_true q38; have q39 : ((ji29) : Int) ≤ ((l0_1.length : Int) : Int) := oD; obtain ⟨i039, hi039, _, hsz39, _⟩ := info_parts info3; have hroom39 : l0_1.length ≤ c0_1 := (Kd.V_reads' ab.out).2.1; have hC39 : Kd.F (Kd.int .i64) _ _ A0_1 l0_1.length l0_1 := (Kd.V_at (base := w.heap.size) ab.out).2.2; have hcut39 := cut_to (P := Try.prog) 24 3 .i64 Try.underlying24 hi039 A0_1 l0_1.length c0_1 (ji29) (oD) q39 hroom39; have hr39 := Kd.F_take (m := ((ji29) : Int).toNat) hC39 (by omega); have aF : aj.length = ((ji29) : Int).toNat := (by rw [aK.out, List.length_take]; omega); rw [← aK.out] at hr39; rw [← aF] at hcut39; have am := Aside0.mk (show Kd.V (Kd.int .i64) 3 _ w.heap.size _ (.slice A0_1 aj.length c0_1) aj from Kd.V_mk (by omega) hr39); have HC451 := Aside0.mk (show aj.length ≤ c0_1 from by omega); clear hr39 hC39 hroom39 hi039 hsz39; have KY39 := Aside0.mk aF; clear aF; replace q39 := eq_true q39
        refine start_ (n := 13) (S := fun w' => w'.cell? ⟨af, 0, none⟩ = some (.slice A0_0 l0_0.length c0_0) ∧ w'.cell? ⟨af, 1, none⟩ = some (.slice A0_1 l0_1.length c0_1)) (ds := []) bl11 (by kernel_rfl) rfl rfl ⟨b1 aa 0, b1 aa 1⟩ (fun hHeld => ?_); refine with_tabW impl_WordTail.tab6 impl_WordTail.bits6 (fun HT_ HW_ => ?_); generalize wc.drew = bM at ab aa ac HB al am hHeld ⊢
        refine pv_ 0 (some 38) bl12 HT_ ?_
        refine pv_ 2 (some 40) bl13 HT_ ?_
        refine pv_ 4 (some 42) bl14 HT_ ?_
        refine pv_ 6 (some 44) bl15 HT_ ?_
        refine tk_ 1 (some 39) bl16 HT_ HW_ hHeld ?_
        refine pv_ 3 (some 41) bl17 HT_ ?_
        refine tk_ 5 (some 43) bl18 HT_ HW_ hHeld ?_
        refine pv_ 7 (some 45) bl19 HT_ ?_
        refine on_ 8 (some 46) bl20 HT_ (fun K hK => ?_)
        refine Kd.N_lit_step (Kd.slice 3 (Kd.int .i64)) _ 24 ?hg (N' := 46) ?hd (xs := ([ag, aj] : List (List Int))) (inner := [.slice aM ag.length aN, .slice A0_1 aj.length c0_1]) (ok := (fun k_ => (P0_1_ k_ ∨ w.heap.size ≤ k_) ∧ k_ ≠ af ∧ k_ ≠ ae)) (okp := (fun k_ => (P0_1_ k_ ∨ w.heap.size ≤ k_) ∧ k_ ≠ af ∧ k_ ≠ ae)) ?hr ?hp (fun _ hk => hk) ((show ∀ k_, bM.heap.size ≤ k_ → (fun k_ => (P0_1_ k_ ∨ w.heap.size ≤ k_) ∧ k_ ≠ af ∧ k_ ≠ ae) k_ from fun k_ hk => ⟨(.inr (Nat.le_trans (below_size (zS HB.out)) hk)), Kd.freshB (g := af) (o := .cells #[.slice A0_0 l0_0.length c0_0, .slice A0_1 l0_1.length c0_1] 26 (0, 0)) (zB aa.out) k_ hk, Kd.freshB (g := ae) (o := .cells #[.slice none 0 0, .slice none 0 0] 26 (0, 0)) (zB ac.out) k_ hk⟩) _ (Nat.le_refl _)) (Below.refl _ _) (Nat.le_refl _) (by simp) ?_; (case hd => rfl); (case hg => rfl); (case hr => first | (go_simp; done) | (go_simp; rfl)); (case hp => exact (Reps.one (show Kd.FK (Kd.slice 3 (Kd.int .i64)) _ _ ag [.slice aM ag.length aN] from (Kd.FK_slice_mk (Kd.V_reads' (Kd.V_mono (ok' := (fun k_ => (P0_1_ k_ ∨ w.heap.size ≤ k_) ∧ k_ ≠ af ∧ k_ ≠ ae)) (al.out) (fun k_ hk => ⟨hk.1, ⟨hk.2.1, hk.2.2⟩⟩))).2.1 (Kd.V_F (Kd.V_mono (ok' := (fun k_ => (P0_1_ k_ ∨ w.heap.size ≤ k_) ∧ k_ ≠ af ∧ k_ ≠ ae)) (al.out) (fun k_ hk => ⟨hk.1, ⟨hk.2.1, hk.2.2⟩⟩))))) (Reps.one (show Kd.FK (Kd.slice 3 (Kd.int .i64)) _ _ aj [.slice A0_1 aj.length c0_1] from (Kd.FK_slice_mk (Kd.V_reads' (Kd.V_mono (ok' := (fun k_ => (P0_1_ k_ ∨ w.heap.size ≤ k_) ∧ k_ ≠ af ∧ k_ ≠ ae)) (am.out) (fun k_ hk => ⟨hk.1, ⟨hk.2.1, hk.2.2⟩⟩))).2.1 (Kd.V_F (Kd.V_mono (ok' := (fun k_ => (P0_1_ k_ ∨ w.heap.size ≤ k_) ∧ k_ ≠ af ∧ k_ ≠ ae)) (am.out) (fun k_ hk => ⟨hk.1, ⟨hk.2.1, hk.2.2⟩⟩))))) (Reps.none _ _))))
        intro cv cB ho41 hb hg_ hnew_; clear hg_ hnew_
        (first | rw [← aL.out] at ho41 | (simp only [Int.reduceToNat] at ho41; rw [← aL.out] at ho41))
        replace ab := Aside0.mk (Kd.V_elder' (by (with_reducible repeat (first | apply Kd.V_alloc | apply Kd.V_drewN | apply Kd.V_drew)); exact ab.out) (Kd.N_base ho41) hb); replace al := Aside0.mk (Kd.V_elder' (by (with_reducible repeat (first | apply Kd.V_alloc | apply Kd.V_drewN | apply Kd.V_drew)); exact al.out) (Kd.N_base ho41) hb); replace am := Aside0.mk (Kd.V_elder' (by (with_reducible repeat (first | apply Kd.V_alloc | apply Kd.V_drewN | apply Kd.V_drew)); exact am.out) (Kd.N_base ho41) hb); have aq := Aside0.mk (Kd.N_lower ho41 (below_size (zS HB.out))); replace aa := xB aa hb; replace ac := xB ac hb; replace HB := xS HB hb; clear hb ho41; obtain ⟨bi, bj, aZ⟩ := Kd.N_slice aq.out
        (first | subst aZ | (injection aZ with f1_ f2_ f3_; have f4_ := f1_.symm; have f5_ := f3_.symm; clear f1_ f2_ f3_; subst f4_; subst f5_))
        refine hK.out _ _ ⟨b1 aa 0, b1 aa 1⟩ (fun hHeld => ?_); clear hK K; refine nr_ (some 46) ?_
        refine on_ 9 (some 47) bl21 HT_ (fun K hK => ?_); refine gs_ Try.func26 #[.slice bi aE.length bj] ?_
        with_reducible refine (slices_Concat_int_int.calls kj2 _ _ aE ah _ ?side1 ?side2 bL.out).mono ?_
        (case side1 => exact zC (Kd.N_reads' aq.out).2.2)
        (case side2 => exact (Kd.N_reads' aq.out).2.1)
        rintro e bf ⟨cw, rfl, ho0, hb⟩; refine ⟨_, rfl, ?_⟩; replace ab := Aside0.mk (Kd.V_elder' (by (with_reducible repeat (first | apply Kd.V_alloc | apply Kd.V_drewN | apply Kd.V_drew)); exact ab.out) (Kd.R_base ho0) hb); replace al := Aside0.mk (Kd.V_elder' (by (with_reducible repeat (first | apply Kd.V_alloc | apply Kd.V_drewN | apply Kd.V_drew)); exact al.out) (Kd.R_base ho0) hb); replace am := Aside0.mk (Kd.V_elder' (by (with_reducible repeat (first | apply Kd.V_alloc | apply Kd.V_drewN | apply Kd.V_drew)); exact am.out) (Kd.R_base ho0) hb); replace aq := Aside0.mk (Kd.N_elder' (by (with_reducible repeat (first | apply Kd.N_alloc | apply Kd.N_drewN | apply Kd.N_drew)); exact aq.out) (Kd.R_base ho0) hb); have aO := Aside0.mk (Kd.R_lower (Kd.R_newM (M := fun k_ => (w.heap.size ≤ k_)) ho0 (below_size (zS HB.out)) (fun k_ h_ => h_)) (below_size (zS HB.out))); replace aa := xB aa hb; replace ac := xB ac hb; replace HB := xS HB hb
        (try clear hb)
        (try clear hb2)
        (try clear hk)
        (try clear hi)
        (try clear ho0)
        obtain ⟨bk, bl, ba⟩ := Kd.R_slice aO.out
        (first | subst ba | (injection ba with f1_ f2_ f3_; have f4_ := f1_.symm; have f5_ := f3_.symm; clear f1_ f2_ f3_; subst f4_; subst f5_))
        refine hK.out _ _ ⟨b1 aa 0, b1 aa 1⟩ (fun hHeld => ?_); clear hK K; refine nr_ (some 47) ?_
        refine pv_ 10 (some 48) bl22 HT_ ?_
        refine on_ 11 (none) bl23 HT_ (fun K hK => ?_); have cx : bf.cell? ⟨ae, 0, none⟩ = some (.slice none 0 0) := b1 ac 0; have cm := blk_frozen ac.out 0; have bD := ad.out; have bE := ai.out; have cy : bf.cell? ⟨ae, 1, none⟩ = some (.slice none 0 0) := b1 ac 1; have cn := blk_frozen ac.out 1; have bF := ad.out; have bG := ai.out; refine skip_ (w1 := ?_) (by rfl) rfl ?_ ?_; rotate_left
        ·go_simp; rfl
        refine hK.out _ _ ⟨(cf2 (hHeld.1) ad.out), (cf2 (hHeld.2) ad.out)⟩ (fun hHeld => ?_); clear hK K
        refine pv_ 12 (some 5) bl24 HT_ ?_
        refine done_ (done_of HT_.out (by kernel_rfl)) ?_
        try go_wp2
        refine bodyPost_ret (results_ct rfl _ _ ae 26 #[.slice none 0 0, .slice bk ah.length bl] (0, 0) _ rfl (by (with_reducible repeat (first | refine blk_drewN ?_ _ | refine blk_drew ?_ | refine blk_alloc ?_ _)); refine blk_put (cs := #[.slice none 0 0, .slice none 0 0]) ?_ 1 _ rfl; (with_reducible repeat (first | refine blk_drewN ?_ _ | refine blk_drew ?_ | refine blk_alloc ?_ _)); refine blk_put (cs := #[.slice none 0 0, .slice none 0 0]) ?_ 0 _ rfl; (with_reducible repeat (first | refine blk_drewN ?_ _ | refine blk_drew ?_ | refine blk_alloc ?_ _)); exact ac.out) Try.underlying26 rfl (by kernel_rfl)) rfl ?_; exact ⟨_, _, by first | rfl | (simp [errW_none, errW_some] <;> rfl) | (simp only [← hji29]; first | rfl | (simp [errW_none, errW_some] <;> rfl)) | (simp [*, errW_none, errW_some] <;> rfl), by first | exact Kd.R_nil _ _ _ _ _ | exact Kd.N_nil _ _ _ _ _ | exact Kd.V_nil _ _ _ _ _ | exact Kd.Q_nil _ _ _ _ _ | exact Kd.S_nil _ _ _ _ _, rM (Aside0.mk (yF2 aO ac)) (fun _ hk => ⟨hk.1.1, (by simp [Value.ownBlock])⟩), zS HB.out⟩
       ·rw [if_neg aC] at H; exact absurd H (by simp)
      ·rw [if_neg aB] at H; exact absurd H (by simp)


/-! ### spec_l3At: function 39 -/
def spec_l3At.f (l0_0 : List Int) (l0_1 : List Int) (a1 : Int) : Option (Int) := if a1 < (l0_0.length : Int) then (if 0 ≤ a1 then (some (rd l0_0 a1)) else (none)) else (if (l0_1.length : Int) = 0 then (none) else (if 0 ≤ (Int.tmod (wrap64 (a1 - (l0_0.length : Int))) (l0_1.length : Int)) then (if (Int.tmod (wrap64 (a1 - (l0_0.length : Int))) (l0_1.length : Int)) < (l0_1.length : Int) then (some (rd l0_1 (Int.tmod (wrap64 (a1 - (l0_0.length : Int))) (l0_1.length : Int)))) else (none)) else (none)))
open Go.Proofs.Ytbdcchbhelehcaa.Short2 in
set_option maxHeartbeats 8000000 in
set_option maxRecDepth 100000 in
theorem spec_l3At.calls (A0_0 : Option Addr) (c0_0 : Nat) (l0_0 : List Int) (A0_1 : Option Addr) (c0_1 : Nat) (l0_1 : List Int) (a1 : Int) (r : Int) (w : World) (hr0_0 : Kd.C (Kd.int .i64) w A0_0 l0_0.length l0_0) (hc0_0 : l0_0.length ≤ c0_0) (hr0_1 : Kd.C (Kd.int .i64) w A0_1 l0_1.length l0_1) (hc0_1 : l0_1.length ≤ c0_1) (h : spec_l3At.f l0_0 l0_1 a1 = some r) :
  Calls Try.prog 39 #[.agg #[.slice A0_0 l0_0.length c0_0, .slice A0_1 l0_1.length c0_1], .int .i64 a1] w fun e w' => e = .returned (.int .i64 r) ∧ Below w.heap.size w w' := by
 have hu26 := Try.underlying26; have HR0_0 := Aside0.mk hr0_0; have HC0_0 := Aside0.mk hc0_0; clear hr0_0 hc0_0; have HR0_1 := Aside0.mk hr0_1; have HC0_1 := Aside0.mk hc0_1; clear hr0_1 hc0_1; have HB := Aside0.mk (Below.refl w.heap.size w); have H : (if a1 < (l0_0.length : Int) then (if 0 ≤ a1 then (some (rd l0_0 a1)) else (none)) else (if (l0_1.length : Int) = 0 then (none) else (if 0 ≤ (Int.tmod (wrap64 (a1 - (l0_0.length : Int))) (l0_1.length : Int)) then (if (Int.tmod (wrap64 (a1 - (l0_0.length : Int))) (l0_1.length : Int)) < (l0_1.length : Int) then (some (rd l0_1 (Int.tmod (wrap64 (a1 - (l0_0.length : Int))) (l0_1.length : Int)))) else (none)) else (none)))) = some r := h; clear h
 by_cases c3 : a1 < (l0_0.length : Int)
 ·rw [if_pos c3] at H; have au : decide (a1 < (l0_0.length : Int)) = true := decide_eq_true c3; clear c3
  by_cases c4 : 0 ≤ a1
  ·rw [if_pos c4] at H; have aw : decide (0 ≤ a1) = true := decide_eq_true c4; clear c4; obtain rfl := Option.some.inj H
   go_enter Try.func39, Try.ntmps39
   go_wp2_with (first | ((with_reducible refine gate_dst (N := 2) rfl ?_); refine bx_ 2 #[.slice A0_0 l0_0.length c0_0, .slice A0_1 l0_1.length c0_1] 26 ?_; intro af hg w5 hbox hb; have ac := Aside0.mk (hbox); have ag := xG HB hg; have ah := xG HB hg; replace HB := xS HB hb; clear hb hbox hg; obtain ⟨am, an, ao, ap⟩ := cz2 ac; have ad : 0 ≤ (a1 : Int) := oD; have q459 : a1 < (l0_0.length : Int) := oD; obtain ⟨ad459, e459, aa⟩ := Kd.at_int HR0_0.out a1 ad q459; cases e459; replace aa := ct_ HB aa; replace ad := eq_true ad; replace q459 := eq_true q459))
   repeat (go_quiet (first | ((with_reducible refine gate_dst (N := 2) rfl ?_); refine bx_ 2 #[.slice A0_0 l0_0.length c0_0, .slice A0_1 l0_1.length c0_1] 26 ?_; intro af hg w5 hbox hb; have ac := Aside0.mk (hbox); have ag := xG HB hg; have ah := xG HB hg; replace HB := xS HB hb; clear hb hbox hg; obtain ⟨am, an, ao, ap⟩ := cz2 ac; have ad : 0 ≤ (a1 : Int) := oD; have q459 : a1 < (l0_0.length : Int) := oD; obtain ⟨ad459, e459, aa⟩ := Kd.at_int HR0_0.out a1 ad q459; cases e459; replace aa := ct_ HB aa; replace ad := eq_true ad; replace q459 := eq_true q459)); try go_wp2_with (first | ((with_reducible refine gate_dst (N := 2) rfl ?_); refine bx_ 2 #[.slice A0_0 l0_0.length c0_0, .slice A0_1 l0_1.length c0_1] 26 ?_; intro af hg w5 hbox hb; have ac := Aside0.mk (hbox); have ag := xG HB hg; have ah := xG HB hg; replace HB := xS HB hb; clear hb hbox hg; obtain ⟨am, an, ao, ap⟩ := cz2 ac; have ad : 0 ≤ (a1 : Int) := oD; have q459 : a1 < (l0_0.length : Int) := oD; obtain ⟨ad459, e459, aa⟩ := Kd.at_int HR0_0.out a1 ad q459; cases e459; replace aa := ct_ HB aa; replace ad := eq_true ad; replace q459 := eq_true q459)))
   go_ret; exact ⟨vw, zS HB.out⟩
  ·rw [if_neg c4] at H; exact absurd H (by simp)
 ·rw [if_neg c3] at H; have au : decide (a1 < (l0_0.length : Int)) = false := decide_eq_false c3; clear c3
  by_cases c7 : (l0_1.length : Int) = 0
  ·rw [if_pos c7] at H; exact absurd H (by simp)
  ·rw [if_neg c7] at H; have ax : ((l0_1.length : Int) == 0) = false := beq_eq_false_iff_ne.mpr c7; have ay : ((l0_1.length : Int) != 0) = true := bne_iff_ne.mpr c7; have az : ¬ (l0_1 = []) := fun h_ => c7 (by rw [h_]; rfl); obtain ⟨ji8, hji8⟩ : ∃ j_ : Int, (Int.tmod (wrap64 (a1 - (l0_0.length : Int))) (l0_1.length : Int)) = j_ := ⟨_, rfl⟩
   replace H : (if 0 ≤ (ji8) then (if (ji8) < (l0_1.length : Int) then (some (rd l0_1 (ji8))) else (none)) else (none)) = some r := by first | (rw [hji8] at H; exact H) | (simp only [hji8] at H ⊢; exact H)
   by_cases c9 : 0 ≤ (ji8)
   ·rw [if_pos c9] at H; have aA : decide (0 ≤ (ji8)) = true := decide_eq_true c9; clear c9
    by_cases aq : (ji8) < (l0_1.length : Int)
    ·rw [if_pos aq] at H; have av : decide ((ji8) < (l0_1.length : Int)) = true := decide_eq_true aq; clear aq; obtain rfl := Option.some.inj H
     go_enter Try.func39, Try.ntmps39
     go_wp2_with (first | ((with_reducible refine gate_dst (N := 2) rfl ?_); refine bx_ 2 #[.slice A0_0 l0_0.length c0_0, .slice A0_1 l0_1.length c0_1] 26 ?_; intro af hg ar hbox hb; have ac := Aside0.mk (hbox); have ag := xG HB hg; have ah := xG HB hg; replace HB := xS HB hb; clear hb hbox hg; obtain ⟨ai, aj, ak, al⟩ := cz2 ac; have ae : 0 ≤ ((ji8) : Int) := oD; have q460 : (ji8) < (l0_1.length : Int) := oD; obtain ⟨ad460, e460, ab⟩ := Kd.at_int HR0_1.out (ji8) ae q460; cases e460; replace ab := ct_ HB ab; replace ae := eq_true ae; replace q460 := eq_true q460))
     repeat (go_quiet (first | ((with_reducible refine gate_dst (N := 2) rfl ?_); refine bx_ 2 #[.slice A0_0 l0_0.length c0_0, .slice A0_1 l0_1.length c0_1] 26 ?_; intro af hg ar hbox hb; have ac := Aside0.mk (hbox); have ag := xG HB hg; have ah := xG HB hg; replace HB := xS HB hb; clear hb hbox hg; obtain ⟨ai, aj, ak, al⟩ := cz2 ac; have ae : 0 ≤ ((ji8) : Int) := oD; have q460 : (ji8) < (l0_1.length : Int) := oD; obtain ⟨ad460, e460, ab⟩ := Kd.at_int HR0_1.out (ji8) ae q460; cases e460; replace ab := ct_ HB ab; replace ae := eq_true ae; replace q460 := eq_true q460)); try go_wp2_with (first | ((with_reducible refine gate_dst (N := 2) rfl ?_); refine bx_ 2 #[.slice A0_0 l0_0.length c0_0, .slice A0_1 l0_1.length c0_1] 26 ?_; intro af hg ar hbox hb; have ac := Aside0.mk (hbox); have ag := xG HB hg; have ah := xG HB hg; replace HB := xS HB hb; clear hb hbox hg; obtain ⟨ai, aj, ak, al⟩ := cz2 ac; have ae : 0 ≤ ((ji8) : Int) := oD; have q460 : (ji8) < (l0_1.length : Int) := oD; obtain ⟨ad460, e460, ab⟩ := Kd.at_int HR0_1.out (ji8) ae q460; cases e460; replace ab := ct_ HB ab; replace ae := eq_true ae; replace q460 := eq_true q460)))
     go_ret; exact ⟨by first | rfl | (simp [errW_none, errW_some] <;> rfl) | (simp only [← hji8]; first | rfl | (simp [errW_none, errW_some] <;> rfl)) | (simp [*, errW_none, errW_some] <;> rfl), zS HB.out⟩
    ·rw [if_neg aq] at H; exact absurd H (by simp)
   ·rw [if_neg c9] at H; exact absurd H (by simp)


/-! ### spec_WordAt: function 16 -/
def spec_WordAt.f (k : Nat) (l0_0 : List Int) (l0_1 : List Int) (a1 : Int) : Option (Int) := (spec_l3Right.f k l0_0 l0_1).bind fun t462 => (if t462 = true then (if a1 < 0 then (some (-1)) else ((spec_l3At.f l0_0 l0_1 a1).bind fun t463 => (some t463))) else (some (-1)))
theorem spec_WordAt.mono : ∀ a0 a1 a2 k, LeO (spec_WordAt.f k a0 a1 a2) (spec_WordAt.f (k + 1) a0 a1 a2) := by
 intro a0 a1 a2 k
 unfold spec_WordAt.f
 repeat' first
   | (with_reducible exact spec_l3Right.mono _ _ _)
   | (with_reducible exact LeO.refl _)
   | (with_reducible exact LeO.none _)
   | (with_reducible refine LeO.ite ?_ ?_)
   | (with_reducible refine LeO.bind ?_ (fun _ => ?_))
   | exact spec_l3Right.mono _ _ _
   | exact LeO.none _
   | refine LeO.ite ?_ ?_
   | refine LeO.bind ?_ (fun _ => ?_)
open Go.Proofs.Ytbdcchbhelehcaa.Short2 in
set_option maxHeartbeats 8000000 in
set_option maxRecDepth 100000 in
theorem spec_WordAt.calls (k : Nat) (A0_0 : Option Addr) (c0_0 : Nat) (l0_0 : List Int) (A0_1 : Option Addr) (c0_1 : Nat) (l0_1 : List Int) (a1 : Int) (r : Int) (w : World) (hr0_0 : Kd.C (Kd.int .i64) w A0_0 l0_0.length l0_0) (hc0_0 : l0_0.length ≤ c0_0) (hr0_1 : Kd.C (Kd.int .i64) w A0_1 l0_1.length l0_1) (hc0_1 : l0_1.length ≤ c0_1) (h : spec_WordAt.f k l0_0 l0_1 a1 = some r) :
  Calls Try.prog 16 #[.agg #[.slice A0_0 l0_0.length c0_0, .slice A0_1 l0_1.length c0_1], .int .i64 a1] w fun e w' => e = .returned (.int .i64 r) ∧ Below w.heap.size w w' := by
 have hu26 := Try.underlying26; have HR0_0 := Aside0.mk hr0_0; have HC0_0 := Aside0.mk hc0_0; clear hr0_0 hc0_0; have HR0_1 := Aside0.mk hr0_1; have HC0_1 := Aside0.mk hc0_1; clear hr0_1 hc0_1; have HB := Aside0.mk (Below.refl w.heap.size w); have H : ((spec_l3Right.f k l0_0 l0_1).bind fun ac => (if ac = true then (if a1 < 0 then (some (-1)) else ((spec_l3At.f l0_0 l0_1 a1).bind fun ab => (some ab))) else (some (-1)))) = some r := h; clear h; replace H := bI H; obtain ⟨ac, ag, H⟩ := H; replace H : (if ac = true then (if a1 < 0 then (some (-1)) else ((spec_l3At.f l0_0 l0_1 a1).bind fun ab => (some ab))) else (some (-1))) = some r := H; have A3 := Aside0.mk ag; clear ag
 by_cases c4 : ac = true
 ·subst c4
  have H1 : (if a1 < 0 then (some (-1)) else ((spec_l3At.f l0_0 l0_1 a1).bind fun ab => (some ab))) = some r := by rw [if_pos rfl] at H; exact H
  clear H; have H := H1; clear H1
  by_cases c5 : a1 < 0
  ·rw [if_pos c5] at H; have ai : decide (a1 < 0) = true := decide_eq_true c5; clear c5; obtain rfl := Option.some.inj H
   go_enter Try.func16, Try.ntmps16
   go_wp2_with (first | ((with_reducible refine gate_dst (N := 2) rfl ?_); refine bx_ 2 #[.slice A0_0 l0_0.length c0_0, .slice A0_1 l0_1.length c0_1] 26 ?_; intro ad hg w6 hbox hb; have aa := Aside0.mk (hbox); have ae := xG HB hg; have af := xG HB hg; replace HB := xS HB hb; clear hb hbox hg; obtain ⟨ax, ay, az, aA⟩ := cz2 aa) | ((with_reducible refine gate_callee (f := 34) rfl ?_); refine gl_ (some 6) Try.func34 #[.agg #[.slice A0_0 l0_0.length c0_0, .slice A0_1 l0_1.length c0_1]] ?_; (with_reducible refine (spec_l3Right.calls k _ _ l0_0 _ _ l0_1 true _ ?side1 ?side2 ?side3 ?side4 A3.out).mono ?_); (case side1 => exact zC (Kd.C_below HR0_0.out HB.out)); (case side2 => exact HC0_0.out); (case side3 => exact zC (Kd.C_below HR0_1.out HB.out)); (case side4 => exact HC0_1.out); rintro e w8 ⟨rfl, hb⟩; refine ⟨_, rfl, ?_⟩; replace aa := xB aa hb; replace HB := xS HB hb; (try clear hb); (try clear hb2); (try clear hk); (try clear hi)))
   go_ret; exact ⟨vw, zS HB.out⟩
  ·rw [if_neg c5] at H; have ai : decide (a1 < 0) = false := decide_eq_false c5; clear c5; replace H := bI H; obtain ⟨ab, ah, H⟩ := H; replace H : (some ab) = some r := H; have A9 := Aside0.mk ah; clear ah; obtain rfl := Option.some.inj H
   go_enter Try.func16, Try.ntmps16
   go_wp2_with (first | ((with_reducible refine gate_dst (N := 2) rfl ?_); refine bx_ 2 #[.slice A0_0 l0_0.length c0_0, .slice A0_1 l0_1.length c0_1] 26 ?_; intro ad hg aB hbox hb; have aa := Aside0.mk (hbox); have ae := xG HB hg; have af := xG HB hg; replace HB := xS HB hb; clear hb hbox hg; obtain ⟨aj, ak, al, am⟩ := cz2 aa) | ((with_reducible refine gate_callee (f := 34) rfl ?_); refine gl_ (some 6) Try.func34 #[.agg #[.slice A0_0 l0_0.length c0_0, .slice A0_1 l0_1.length c0_1]] ?_; (with_reducible refine (spec_l3Right.calls k _ _ l0_0 _ _ l0_1 true _ ?side1 ?side2 ?side3 ?side4 A3.out).mono ?_); (case side1 => exact zC (Kd.C_below HR0_0.out HB.out)); (case side2 => exact HC0_0.out); (case side3 => exact zC (Kd.C_below HR0_1.out HB.out)); (case side4 => exact HC0_1.out); rintro e aC ⟨rfl, hb⟩; refine ⟨_, rfl, ?_⟩; replace aa := xB aa hb; replace HB := xS HB hb; (try clear hb); (try clear hb2); (try clear hk); (try clear hi); obtain ⟨an, ao, ap, aq⟩ := cz2 aa) | ((with_reducible refine gate_callee (f := 39) rfl ?_); refine gl_ (some 14) Try.func39 #[.agg #[.slice A0_0 l0_0.length c0_0, .slice A0_1 l0_1.length c0_1], .int .i64 a1] ?_; (with_reducible refine (spec_l3At.calls _ _ l0_0 _ _ l0_1 a1 ab _ ?side1 ?side2 ?side3 ?side4 A9.out).mono ?_); (case side1 => exact zC (Kd.C_below HR0_0.out HB.out)); (case side2 => exact HC0_0.out); (case side3 => exact zC (Kd.C_below HR0_1.out HB.out)); (case side4 => exact HC0_1.out); rintro e aD ⟨rfl, hb⟩; refine ⟨_, rfl, ?_⟩; replace aa := xB aa hb; replace HB := xS HB hb; (try clear hb); (try clear hb2); (try clear hk); (try clear hi)))
   go_ret; exact ⟨vw, zS HB.out⟩
 ·replace c4 := Bool.eq_false_iff.mpr c4; subst c4
  have H1 : (some (-1)) = some r := by rw [if_neg (show ¬ (false = true) by decide)] at H; exact H
  clear H; have H := H1; clear H1; obtain rfl := Option.some.inj H
  go_enter Try.func16, Try.ntmps16
  go_wp2_with (first | ((with_reducible refine gate_dst (N := 2) rfl ?_); refine bx_ 2 #[.slice A0_0 l0_0.length c0_0, .slice A0_1 l0_1.length c0_1] 26 ?_; intro ad hg aE hbox hb; have aa := Aside0.mk (hbox); have ae := xG HB hg; have af := xG HB hg; replace HB := xS HB hb; clear hb hbox hg; obtain ⟨ar, au, av, aw⟩ := cz2 aa) | ((with_reducible refine gate_callee (f := 34) rfl ?_); refine gl_ (some 6) Try.func34 #[.agg #[.slice A0_0 l0_0.length c0_0, .slice A0_1 l0_1.length c0_1]] ?_; (with_reducible refine (spec_l3Right.calls k _ _ l0_0 _ _ l0_1 false _ ?side1 ?side2 ?side3 ?side4 A3.out).mono ?_); (case side1 => exact zC (Kd.C_below HR0_0.out HB.out)); (case side2 => exact HC0_0.out); (case side3 => exact zC (Kd.C_below HR0_1.out HB.out)); (case side4 => exact HC0_1.out); rintro e aF ⟨rfl, hb⟩; refine ⟨_, rfl, ?_⟩; replace aa := xB aa hb; replace HB := xS HB hb; (try clear hb); (try clear hb2); (try clear hk); (try clear hi)))
  go_ret; exact ⟨vw, zS HB.out⟩


/-! ### impl_equalWords: function 40 -/
def impl_equalWords.f (k : Nat) (l0_0 : List Int) (l0_1 : List Int) (l1_0 : List Int) (l1_1 : List Int) : Option (Bool) := (slices_Equal_int_int.f k l0_0 l1_0).bind fun t466 => (if t466 = true then ((slices_Equal_int_int.f k l0_1 l1_1).bind fun t467 => (some t467)) else (some false))
theorem impl_equalWords.mono : ∀ a0 a1 a2 a3 k, LeO (impl_equalWords.f k a0 a1 a2 a3) (impl_equalWords.f (k + 1) a0 a1 a2 a3) := by
 intro a0 a1 a2 a3 k
 unfold impl_equalWords.f
 repeat' first
   | (with_reducible exact slices_Equal_int_int.mono _ _ _)
   | (with_reducible exact LeO.refl _)
   | (with_reducible exact LeO.none _)
   | (with_reducible refine LeO.ite ?_ ?_)
   | (with_reducible refine LeO.bind ?_ (fun _ => ?_))
   | exact slices_Equal_int_int.mono _ _ _
   | exact LeO.none _
   | refine LeO.ite ?_ ?_
   | refine LeO.bind ?_ (fun _ => ?_)
open Go.Proofs.Ytbdcchbhelehcaa.Short2 in
set_option maxHeartbeats 8000000 in
set_option maxRecDepth 100000 in
theorem impl_equalWords.calls (k : Nat) (A0_0 : Option Addr) (c0_0 : Nat) (l0_0 : List Int) (A0_1 : Option Addr) (c0_1 : Nat) (l0_1 : List Int) (A1_0 : Option Addr) (c1_0 : Nat) (l1_0 : List Int) (A1_1 : Option Addr) (c1_1 : Nat) (l1_1 : List Int) (r : Bool) (w : World) (hr0_0 : Kd.C (Kd.int .i64) w A0_0 l0_0.length l0_0) (hc0_0 : l0_0.length ≤ c0_0) (hr0_1 : Kd.C (Kd.int .i64) w A0_1 l0_1.length l0_1) (hc0_1 : l0_1.length ≤ c0_1) (hr1_0 : Kd.C (Kd.int .i64) w A1_0 l1_0.length l1_0) (hc1_0 : l1_0.length ≤ c1_0) (hr1_1 : Kd.C (Kd.int .i64) w A1_1 l1_1.length l1_1) (hc1_1 : l1_1.length ≤ c1_1) (h : impl_equalWords.f k l0_0 l0_1 l1_0 l1_1 = some r) :
  Calls Try.prog 40 #[.agg #[.slice A0_0 l0_0.length c0_0, .slice A0_1 l0_1.length c0_1], .agg #[.slice A1_0 l1_0.length c1_0, .slice A1_1 l1_1.length c1_1]] w fun e w' => e = .returned (.bool r) ∧ Below w.heap.size w w' := by
 have hu26 := Try.underlying26; have HR0_0 := Aside0.mk hr0_0; have HC0_0 := Aside0.mk hc0_0; clear hr0_0 hc0_0; have HR0_1 := Aside0.mk hr0_1; have HC0_1 := Aside0.mk hc0_1; clear hr0_1 hc0_1; have HR1_0 := Aside0.mk hr1_0; have HC1_0 := Aside0.mk hc1_0; clear hr1_0 hc1_0; have HR1_1 := Aside0.mk hr1_1; have HC1_1 := Aside0.mk hc1_1; clear hr1_1 hc1_1; have HB := Aside0.mk (Below.refl w.heap.size w); have H : ((slices_Equal_int_int.f k l0_0 l1_0).bind fun ad => (if ad = true then ((slices_Equal_int_int.f k l0_1 l1_1).bind fun ab => (some ab)) else (some false))) = some r := h; clear h; replace H := bI H; obtain ⟨ad, am, H⟩ := H; replace H : (if ad = true then ((slices_Equal_int_int.f k l0_1 l1_1).bind fun ab => (some ab)) else (some false)) = some r := H; have A3 := Aside0.mk am; clear am
 by_cases c4 : ad = true
 ·subst c4
  have H1 : ((slices_Equal_int_int.f k l0_1 l1_1).bind fun ab => (some ab)) = some r := by rw [if_pos rfl] at H; exact H
  clear H; have H := H1; clear H1; replace H := bI H; obtain ⟨ab, an, H⟩ := H; replace H : (some ab) = some r := H; have A5 := Aside0.mk an; clear an; obtain rfl := Option.some.inj H
  go_enter Try.func40, Try.ntmps40
  go_wp2_with (first | ((with_reducible refine gate_dst (N := 2) rfl ?_); refine bx_ 2 #[.slice A0_0 l0_0.length c0_0, .slice A0_1 l0_1.length c0_1] 26 ?_; intro ag hg w6 hbox hb; have aa := Aside0.mk (hbox); have ah := xG HB hg; have ai := xG HB hg; replace HB := xS HB hb; clear hb hbox hg) | ((with_reducible refine gate_dst (N := 3) rfl ?_); refine bx_ 3 #[.slice A1_0 l1_0.length c1_0, .slice A1_1 l1_1.length c1_1] 26 ?_; intro aj hg w7 hbox hb; have ae := Aside0.mk (hbox); have ak := xG HB hg; have al := xG HB hg; replace HB := xS HB hb; have ac := xN aa hg; have af := xM aa hg; replace aa := xB aa hb; clear hb hbox hg; obtain ⟨aI, aJ⟩ := nn ac; obtain ⟨aC, aD, aE, aF⟩ := cz2 aa; obtain ⟨ao, ap, aq, ar⟩ := cz2 ae) | ((with_reducible refine gate_callee (f := 43) rfl ?_); refine gl_ (some 9) Try.func43 #[.slice A0_0 l0_0.length c0_0, .slice A1_0 l1_0.length c1_0] ?_; (with_reducible refine (slices_Equal_int_int.calls k _ _ l0_0 _ _ l1_0 true _ ?side1 ?side2 ?side3 ?side4 A3.out).mono ?_); (case side1 => exact zC (Kd.C_below HR0_0.out HB.out)); (case side2 => exact HC0_0.out); (case side3 => exact zC (Kd.C_below HR1_0.out HB.out)); (case side4 => exact HC1_0.out); rintro e w' ⟨rfl, ⟨nd, rfl⟩⟩; refine ⟨_, rfl, ?_⟩) | (go_at_call 43; (with_reducible refine (slices_Equal_int_int.calls k _ _ l0_1 _ _ l1_1 ab _ ?side1 ?side2 ?side3 ?side4 A5.out).mono ?_); (case side1 => repeat (first | exact (Kd.C_below HR0_1.out (zS HB.out)) | (with_reducible refine Kd.C_alloc ?_ _) | (with_reducible refine Kd.C_drewN ?_ _) | (with_reducible refine Kd.C_drew ?_))); (case side2 => exact HC0_1.out); (case side3 => repeat (first | exact (Kd.C_below HR1_1.out (zS HB.out)) | (with_reducible refine Kd.C_alloc ?_ _) | (with_reducible refine Kd.C_drewN ?_ _) | (with_reducible refine Kd.C_drew ?_))); (case side4 => exact HC1_1.out); rintro e w' ⟨rfl, ⟨nd, rfl⟩⟩))
  go_ret; exact ⟨vw, zS HB.out⟩
 ·replace c4 := Bool.eq_false_iff.mpr c4; subst c4
  have H1 : (some false) = some r := by rw [if_neg (show ¬ (false = true) by decide)] at H; exact H
  clear H; have H := H1; clear H1; obtain rfl := Option.some.inj H
  go_enter Try.func40, Try.ntmps40
  go_wp2_with (first | ((with_reducible refine gate_dst (N := 2) rfl ?_); refine bx_ 2 #[.slice A0_0 l0_0.length c0_0, .slice A0_1 l0_1.length c0_1] 26 ?_; intro ag hg aK hbox hb; have aa := Aside0.mk (hbox); have ah := xG HB hg; have ai := xG HB hg; replace HB := xS HB hb; clear hb hbox hg) | ((with_reducible refine gate_dst (N := 3) rfl ?_); refine bx_ 3 #[.slice A1_0 l1_0.length c1_0, .slice A1_1 l1_1.length c1_1] 26 ?_; intro aj hg aL hbox hb; have ae := Aside0.mk (hbox); have ak := xG HB hg; have al := xG HB hg; replace HB := xS HB hb; have ac := xN aa hg; have af := xM aa hg; replace aa := xB aa hb; clear hb hbox hg; obtain ⟨aG, aH⟩ := nn ac; obtain ⟨au, av, aw, ax⟩ := cz2 aa; obtain ⟨ay, az, aA, aB⟩ := cz2 ae) | ((with_reducible refine gate_callee (f := 43) rfl ?_); refine gl_ (some 9) Try.func43 #[.slice A0_0 l0_0.length c0_0, .slice A1_0 l1_0.length c1_0] ?_; (with_reducible refine (slices_Equal_int_int.calls k _ _ l0_0 _ _ l1_0 false _ ?side1 ?side2 ?side3 ?side4 A3.out).mono ?_); (case side1 => exact zC (Kd.C_below HR0_0.out HB.out)); (case side2 => exact HC0_0.out); (case side3 => exact zC (Kd.C_below HR1_0.out HB.out)); (case side4 => exact HC1_0.out); rintro e w' ⟨rfl, ⟨nd, rfl⟩⟩; refine ⟨_, rfl, ?_⟩))
  go_ret; exact ⟨vw, zS HB.out⟩

section
open Go.Proofs.Ytbdcchbhelehcaa.Short2.T
abbrev impl_WordSame.bl0 : Array Bool := #[f, f, f, f, f, f, f, f, f, f, f, f, f, f]
abbrev impl_WordSame.bl1 : Array Bool := #[t, f, f, f, f, f, f, f, f, f, f, f, f, f]
abbrev impl_WordSame.bl2 : Array Bool := #[t, t, f, f, f, f, f, f, f, f, f, f, f, f]
abbrev impl_WordSame.bl3 : Array Bool := #[t, t, t, f, f, f, f, f, f, f, f, f, f, f]
abbrev impl_WordSame.bl4 : Array Bool := #[t, t, t, t, f, f, f, f, f, f, f, f, f, f]
abbrev impl_WordSame.bl5 : Array Bool := #[t, t, t, t, t, f, f, f, f, f, f, f, f, f]
abbrev impl_WordSame.bl6 : Array Bool := #[t, t, t, t, t, t, f, f, f, f, f, f, f, f]
abbrev impl_WordSame.bl7 : Array Bool := #[t, t, t, t, t, t, t, f, f, f, f, f, f, f]
abbrev impl_WordSame.bl8 : Array Bool := #[t, t, t, t, t, t, t, t, f, f, f, f, f, f]
abbrev impl_WordSame.bl9 : Array Bool := #[t, t, t, t, t, t, t, t, f, t, f, f, f, f]
abbrev impl_WordSame.bl10 : Array Bool := #[t, t, t, t, t, t, t, t, t, t, f, f, f, f]
abbrev impl_WordSame.bl11 : Array Bool := #[t, t, t, t, t, t, t, t, t, t, t, f, f, f]
abbrev impl_WordSame.bl12 : Array Bool := #[t, t, t, t, t, t, t, t, t, t, t, t, f, f]
abbrev impl_WordSame.bl13 : Array Bool := #[t, t, t, t, t, t, t, t, t, t, t, t, t, f]
abbrev impl_WordSame.bl14 : Array Bool := #[t, t, t, t, t, t, t, t, t, t, t, t, t, t]
abbrev impl_WordSame.bl15 : Array Bool := #[t, t, t, t, t, t, t, t, t, f, f, f, f, f]
end
/-! ### impl_WordSame: function 17 -/
def impl_WordSame.f (k : Nat) (l0_0 : List Int) (l0_1 : List Int) (l1_0 : List Int) (l1_1 : List Int) : Option (Bool) := (impl_isRight.f k l0_0 l0_1).bind fun t470 => (if t470 = true then ((impl_isRight.f k l1_0 l1_1).bind fun t471 => (if t471 = true then ((impl_WordCanon.f k l0_0 l0_1).bind fun bt472 => ((impl_WordCanon.f k l1_0 l1_1).bind fun bt478 => ((impl_equalWords.f k bt472.1 bt472.2 bt478.1 bt478.2).bind fun t484 => (some t484)))) else (some false))) else (some false))
theorem impl_WordSame.mono : ∀ a0 a1 a2 a3 k, LeO (impl_WordSame.f k a0 a1 a2 a3) (impl_WordSame.f (k + 1) a0 a1 a2 a3) := by
 intro a0 a1 a2 a3 k
 unfold impl_WordSame.f
 repeat' first
   | (with_reducible exact impl_WordCanon.mono _ _ _)
   | (with_reducible exact impl_equalWords.mono _ _ _ _ _)
   | (with_reducible exact impl_isRight.mono _ _ _)
   | (with_reducible exact LeO.refl _)
   | (with_reducible exact LeO.none _)
   | (with_reducible refine LeO.ite ?_ ?_)
   | (with_reducible refine LeO.bind ?_ (fun _ => ?_))
   | exact impl_WordCanon.mono _ _ _
   | exact impl_equalWords.mono _ _ _ _ _
   | exact impl_isRight.mono _ _ _
   | exact LeO.none _
   | refine LeO.ite ?_ ?_
   | refine LeO.bind ?_ (fun _ => ?_)
def impl_WordSame.T1 : Bool × List (List Nat × List Nat) := (true, [([], []), ([0], [0]), ([1, 1], [1]), ([2], [2]), ([3, 2, 2], [2, 3]), ([2, 4], [2, 4]), ([5, 4], [5]), ([6], [6]), ([7, 6, 6], [6, 7]), ([6], [6]), ([9, 8, 6], [6, 9]), ([8, 10, 10, 6], [6, 8, 10]), ([6, 11], [6, 11]), ([12, 11, 0, 1, 2, 3, 4, 5, 6, 7, 8, 9, 10, 11, 12], [12])])
def impl_WordSame.B1 : List Nat := [0, 1, 3, 7, 15, 31, 63, 127, 255, 127, 1023, 2047, 4095, 8191]
theorem impl_WordSame.tab1 : rtab .any (opsOf Try.f17 1) = impl_WordSame.T1 := by kernel_rfl
theorem impl_WordSame.bits1 : waitsOk impl_WordSame.T1.2 impl_WordSame.B1 = true := by kernel_rfl
open Go.Proofs.Ytbdcchbhelehcaa.Short2 in
set_option maxHeartbeats 8000000 in
set_option maxRecDepth 100000 in
theorem impl_WordSame.calls (k : Nat) (A0_0 : Option Addr) (c0_0 : Nat) (l0_0 : List Int) (A0_1 : Option Addr) (c0_1 : Nat) (l0_1 : List Int) (A1_0 : Option Addr) (c1_0 : Nat) (l1_0 : List Int) (A1_1 : Option Addr) (c1_1 : Nat) (l1_1 : List Int) (r : Bool) (w : World) (hr0_0 : Kd.C (Kd.int .i64) w A0_0 l0_0.length l0_0) (hc0_0 : l0_0.length ≤ c0_0) (hr0_1 : Kd.C (Kd.int .i64) w A0_1 l0_1.length l0_1) (hc0_1 : l0_1.length ≤ c0_1) (hr1_0 : Kd.C (Kd.int .i64) w A1_0 l1_0.length l1_0) (hc1_0 : l1_0.length ≤ c1_0) (hr1_1 : Kd.C (Kd.int .i64) w A1_1 l1_1.length l1_1) (hc1_1 : l1_1.length ≤ c1_1) (h : impl_WordSame.f k l0_0 l0_1 l1_0 l1_1 = some r) :
  Calls Try.prog 17 #[.agg #[.slice A0_0 l0_0.length c0_0, .slice A0_1 l0_1.length c0_1], .agg #[.slice A1_0 l1_0.length c1_0, .slice A1_1 l1_1.length c1_1]] w fun e w' => e = .returned (.bool r) ∧ Below w.heap.size w w' := by
 have hu26 := Try.underlying26; have HR0_0 := Aside0.mk hr0_0; have HC0_0 := Aside0.mk hc0_0; clear hr0_0 hc0_0; have HR0_1 := Aside0.mk hr0_1; have HC0_1 := Aside0.mk hc0_1; clear hr0_1 hc0_1; have HR1_0 := Aside0.mk hr1_0; have HC1_0 := Aside0.mk hc1_0; clear hr1_0 hc1_0; have HR1_1 := Aside0.mk hr1_1; have HC1_1 := Aside0.mk hc1_1; clear hr1_1 hc1_1; have HB := Aside0.mk (Below.refl w.heap.size w); have H : ((impl_isRight.f k l0_0 l0_1).bind fun ao => (if ao = true then ((impl_isRight.f k l1_0 l1_1).bind fun ag => (if ag = true then ((impl_WordCanon.f k l0_0 l0_1).bind fun bt472 => ((impl_WordCanon.f k l1_0 l1_1).bind fun bt478 => ((impl_equalWords.f k bt472.1 bt472.2 bt478.1 bt478.2).bind fun ac => (some ac)))) else (some false))) else (some false))) = some r := h; clear h; replace H := bI H; obtain ⟨ao, aB, H⟩ := H; replace H : (if ao = true then ((impl_isRight.f k l1_0 l1_1).bind fun ag => (if ag = true then ((impl_WordCanon.f k l0_0 l0_1).bind fun bt472 => ((impl_WordCanon.f k l1_0 l1_1).bind fun bt478 => ((impl_equalWords.f k bt472.1 bt472.2 bt478.1 bt478.2).bind fun ac => (some ac)))) else (some false))) else (some false)) = some r := H; have A3 := Aside0.mk aB; clear aB
 by_cases c4 : ao = true
 ·subst c4
  have H1 : ((impl_isRight.f k l1_0 l1_1).bind fun ag => (if ag = true then ((impl_WordCanon.f k l0_0 l0_1).bind fun bt472 => ((impl_WordCanon.f k l1_0 l1_1).bind fun bt478 => ((impl_equalWords.f k bt472.1 bt472.2 bt478.1 bt478.2).bind fun ac => (some ac)))) else (some false))) = some r := by rw [if_pos rfl] at H; exact H
  clear H; have H := H1; clear H1; replace H := bI H; obtain ⟨ag, aC, H⟩ := H; replace H : (if ag = true then ((impl_WordCanon.f k l0_0 l0_1).bind fun bt472 => ((impl_WordCanon.f k l1_0 l1_1).bind fun bt478 => ((impl_equalWords.f k bt472.1 bt472.2 bt478.1 bt478.2).bind fun ac => (some ac)))) else (some false)) = some r := H; have A5 := Aside0.mk aC; clear aC
  by_cases c6 : ag = true
  ·subst c6
   have H1 : ((impl_WordCanon.f k l0_0 l0_1).bind fun bt472 => ((impl_WordCanon.f k l1_0 l1_1).bind fun bt478 => ((impl_equalWords.f k bt472.1 bt472.2 bt478.1 bt478.2).bind fun ac => (some ac)))) = some r := by rw [if_pos rfl] at H; exact H
   clear H; have H := H1; clear H1; replace H := bI H; obtain ⟨⟨am, an⟩, aD, H⟩ := H; replace H : ((impl_WordCanon.f k l1_0 l1_1).bind fun bt478 => ((impl_equalWords.f k am an bt478.1 bt478.2).bind fun ac => (some ac))) = some r := H; have A7 := Aside0.mk aD; clear aD; replace H := bI H; obtain ⟨⟨ap, aq⟩, aE, H⟩ := H; replace H : ((impl_equalWords.f k am an ap aq).bind fun ac => (some ac)) = some r := H; have A8 := Aside0.mk aE; clear aE; replace H := bI H; obtain ⟨ac, aF, H⟩ := H; replace H : (some ac) = some r := H; have A9 := Aside0.mk aF; clear aF; obtain rfl := Option.some.inj H
   go_enter Try.func17, Try.ntmps17
   try go_wp2_with (first | ((with_reducible refine gate_dst (N := 2) rfl ?_); refine bx_ 2 #[.slice A0_0 l0_0.length c0_0, .slice A0_1 l0_1.length c0_1] 26 ?_; intro af hg aV hbox hb; have aa := Aside0.mk (hbox); have ar := xG HB hg; have au := xG HB hg; replace HB := xS HB hb; clear hb hbox hg) | ((with_reducible refine gate_dst (N := 3) rfl ?_); refine bx_ 3 #[.slice A1_0 l1_0.length c1_0, .slice A1_1 l1_1.length c1_1] 26 ?_; intro ah hg aO hbox hb; have ab := Aside0.mk (hbox); have av := xG HB hg; have aw := xG HB hg; replace HB := xS HB hb; have ak := xN aa hg; have al := xM aa hg; replace aa := xB aa hb; clear hb hbox hg))
   replace aa := Aside0.mk (blk_drew aa.out); replace ab := Aside0.mk (blk_drew ab.out); replace HB := Aside0.mk (below_drew1 HB.out); refine start_ (n := 14) (S := fun w' => w'.cell? ⟨af, 0, none⟩ = some (.slice A0_0 l0_0.length c0_0) ∧ w'.cell? ⟨af, 1, none⟩ = some (.slice A0_1 l0_1.length c0_1) ∧ w'.cell? ⟨ah, 0, none⟩ = some (.slice A1_0 l1_0.length c1_0) ∧ w'.cell? ⟨ah, 1, none⟩ = some (.slice A1_1 l1_1.length c1_1)) (ds := []) bl0 (by kernel_rfl) rfl rfl ⟨b1 aa 0, b1 aa 1, b1 ab 0, b1 ab 1⟩ (fun hHeld => ?_); refine with_tabW impl_WordSame.tab1 impl_WordSame.bits1 (fun HT_ HW_ => ?_); generalize aO.drew = aW at aa ab HB hHeld ⊢; refine tk_ 0 (some 5) bl1 HT_ HW_ hHeld ?_
   refine on_ 1 (some 6) bl2 HT_ (fun K hK => ?_); refine gs_ Try.func23 #[.agg #[.slice A0_0 l0_0.length c0_0, .slice A0_1 l0_1.length c0_1]] ?_
   with_reducible refine (impl_isRight.calls k _ _ l0_0 _ _ l0_1 true _ ?side1 ?side2 ?side3 ?side4 A3.out).mono ?_
   (case side1 => exact zC (Kd.C_below HR0_0.out HB.out))
   (case side2 => exact HC0_0.out)
   (case side3 => exact zC (Kd.C_below HR0_1.out HB.out))
   (case side4 => exact HC0_1.out)
   rintro e aX ⟨rfl, hb⟩; refine ⟨_, rfl, ?_⟩; replace aa := xB aa hb; replace ab := xB ab hb; replace HB := xS HB hb
   (try clear hb)
   (try clear hb2)
   (try clear hk)
   (try clear hi)
   refine hK.out _ _ ⟨b1 aa 0, b1 aa 1, b1 ab 0, b1 ab 1⟩ (fun hHeld => ?_); clear hK K; refine nr_ (some 6) ?_
   refine pv_ 2 (some 7) bl3 HT_ ?_
   refine tk_ 3 (some 8) bl4 HT_ HW_ hHeld ?_
   refine on_ 4 (some 9) bl5 HT_ (fun K hK => ?_); refine gs_ Try.func23 #[.agg #[.slice A1_0 l1_0.length c1_0, .slice A1_1 l1_1.length c1_1]] ?_
   with_reducible refine (impl_isRight.calls k _ _ l1_0 _ _ l1_1 true _ ?side1 ?side2 ?side3 ?side4 A5.out).mono ?_
   (case side1 => exact zC (Kd.C_below HR1_0.out HB.out))
   (case side2 => exact HC1_0.out)
   (case side3 => exact zC (Kd.C_below HR1_1.out HB.out))
   (case side4 => exact HC1_1.out)
   rintro e aY ⟨rfl, hb⟩; refine ⟨_, rfl, ?_⟩; replace aa := xB aa hb; replace ab := xB ab hb; replace HB := xS HB hb
   (try clear hb)
   (try clear hb2)
   (try clear hk)
   (try clear hi)
   refine hK.out _ _ ⟨b1 aa 0, b1 aa 1, b1 ab 0, b1 ab 1⟩ (fun hHeld => ?_); clear hK K; refine nr_ (some 9) ?_
   refine pv_ 5 (some 10) bl6 HT_ ?_
   refine pv_ 6 (some 11) bl7 HT_ ?_
   refine tk_ 7 (some 12) bl8 HT_ HW_ hHeld ?_
   refine tk_ 9 (some 14) bl9 HT_ HW_ hHeld ?_
   refine on_ 8 (some 13) bl10 HT_ (fun K hK => ?_); refine gs_ Try.func6 #[.agg #[.slice A0_0 l0_0.length c0_0, .slice A0_1 l0_1.length c0_1]] ?_
   with_reducible refine (impl_WordCanon.calls k _ _ l0_0 _ _ l0_1 am an _ ?side1 ?side2 ?side3 ?side4 A7.out).mono ?_
   (case side1 => exact zC (Kd.C_below HR0_0.out HB.out))
   (case side2 => exact HC0_0.out)
   (case side3 => exact zC (Kd.C_below HR0_1.out HB.out))
   (case side4 => exact HC0_1.out)
   rintro e aZ ⟨aR, aS, rfl, ho0, ho1, hb⟩; refine ⟨_, rfl, ?_⟩; have ad := rW0 ho0 HB; have ae := rW0 ho1 HB; replace aa := xB aa hb; replace ab := xB ab hb; replace HB := xS HB hb
   (try clear hb)
   (try clear hb2)
   (try clear hk)
   (try clear hi)
   (try clear ho0)
   (try clear ho1)
   refine hK.out _ _ ⟨b1 aa 0, b1 aa 1, b1 ab 0, b1 ab 1⟩ (fun hHeld => ?_); clear hK K; refine nr_ (some 13) ?_
   refine on_ 10 (some 15) bl11 HT_ (fun K hK => ?_); refine gs_ Try.func6 #[.agg #[.slice A1_0 l1_0.length c1_0, .slice A1_1 l1_1.length c1_1]] ?_
   with_reducible refine (impl_WordCanon.calls k _ _ l1_0 _ _ l1_1 ap aq _ ?side1 ?side2 ?side3 ?side4 A8.out).mono ?_
   (case side1 => exact zC (Kd.C_below HR1_0.out HB.out))
   (case side2 => exact HC1_0.out)
   (case side3 => exact zC (Kd.C_below HR1_1.out HB.out))
   (case side4 => exact HC1_1.out)
   rintro e ba ⟨aT, aU, rfl, ho0, ho1, hb⟩; refine ⟨_, rfl, ?_⟩; have ai := rW2 ho0 ad ae HB; have aj := rW2 ho1 ad ae HB; replace ad := Aside0.mk (Kd.R_mono (Kd.R_told (Kd.R_told (Kd.R_old (zR ad.out) hb) (Kd.R_base ho0)) (Kd.R_base ho1)) (fun _ h_ => h_.1)); replace ae := Aside0.mk (Kd.R_mono (Kd.R_told (Kd.R_told (Kd.R_old (zR ae.out) hb) (Kd.R_base ho0)) (Kd.R_base ho1)) (fun _ h_ => h_.1)); replace aa := xB aa hb; replace ab := xB ab hb; replace HB := xS HB hb
   (try clear hb)
   (try clear hb2)
   (try clear hk)
   (try clear hi)
   (try clear ho0)
   (try clear ho1)
   obtain ⟨aG, aH, ax⟩ := Kd.R_slice ad.out
   (first | subst ax | (injection ax with f1_ f2_ f3_; have f4_ := f1_.symm; have f5_ := f3_.symm; clear f1_ f2_ f3_; subst f4_; subst f5_))
   obtain ⟨aI, aJ, ay⟩ := Kd.R_slice ae.out
   (first | subst ay | (injection ay with f1_ f2_ f3_; have f4_ := f1_.symm; have f5_ := f3_.symm; clear f1_ f2_ f3_; subst f4_; subst f5_))
   obtain ⟨aK, aL, az⟩ := Kd.R_slice ai.out
   (first | subst az | (injection az with f1_ f2_ f3_; have f4_ := f1_.symm; have f5_ := f3_.symm; clear f1_ f2_ f3_; subst f4_; subst f5_))
   obtain ⟨aM, aN, aA⟩ := Kd.R_slice aj.out
   (first | subst aA | (injection aA with f1_ f2_ f3_; have f4_ := f1_.symm; have f5_ := f3_.symm; clear f1_ f2_ f3_; subst f4_; subst f5_))
   refine hK.out _ _ ⟨b1 aa 0, b1 aa 1, b1 ab 0, b1 ab 1⟩ (fun hHeld => ?_); clear hK K; refine nr_ (some 15) ?_
   refine on_ 11 (some 16) bl12 HT_ (fun K hK => ?_); refine gs_ Try.func40 #[.agg #[.slice aG am.length aH, .slice aI an.length aJ], .agg #[.slice aK ap.length aL, .slice aM aq.length aN]] ?_
   with_reducible refine (impl_equalWords.calls k _ _ am _ _ an _ _ ap _ _ aq ac _ ?side1 ?side2 ?side3 ?side4 ?side5 ?side6 ?side7 ?side8 A9.out).mono ?_
   (case side1 => exact sC ad)
   (case side2 => exact sL ad)
   (case side3 => exact sC ae)
   (case side4 => exact sL ae)
   (case side5 => exact sC ai)
   (case side6 => exact sL ai)
   (case side7 => exact sC aj)
   (case side8 => exact sL aj)
   rintro e bb ⟨rfl, hb⟩; refine ⟨_, rfl, ?_⟩; replace ad := xR ad hb; replace ae := xR ae hb; replace ai := xR ai hb; replace aj := xR aj hb; replace aa := xB aa hb; replace ab := xB ab hb; replace HB := xS HB hb
   (try clear hb)
   (try clear hb2)
   (try clear hk)
   (try clear hi)
   refine hK.out _ _ ⟨b1 aa 0, b1 aa 1, b1 ab 0, b1 ab 1⟩ (fun hHeld => ?_); clear hK K; refine nr_ (some 16) ?_
   refine pv_ 12 (some 17) bl13 HT_ ?_
   refine pv_ 13 (some 4) bl14 HT_ ?_
   refine done_ (done_of HT_.out (by kernel_rfl)) ?_
   try go_wp2
   go_ret; exact ⟨vw, zS HB.out⟩
  ·replace c6 := Bool.eq_false_iff.mpr c6; subst c6
   have H1 : (some false) = some r := by rw [if_neg (show ¬ (false = true) by decide)] at H; exact H
   clear H; have H := H1; clear H1; obtain rfl := Option.some.inj H
   go_enter Try.func17, Try.ntmps17
   try go_wp2_with (first | ((with_reducible refine gate_dst (N := 2) rfl ?_); refine bx_ 2 #[.slice A0_0 l0_0.length c0_0, .slice A0_1 l0_1.length c0_1] 26 ?_; intro af hg bc hbox hb; have aa := Aside0.mk (hbox); have ar := xG HB hg; have au := xG HB hg; replace HB := xS HB hb; clear hb hbox hg) | ((with_reducible refine gate_dst (N := 3) rfl ?_); refine bx_ 3 #[.slice A1_0 l1_0.length c1_0, .slice A1_1 l1_1.length c1_1] 26 ?_; intro ah hg aP hbox hb; have ab := Aside0.mk (hbox); have av := xG HB hg; have aw := xG HB hg; replace HB := xS HB hb; have ak := xN aa hg; have al := xM aa hg; replace aa := xB aa hb; clear hb hbox hg))
   replace aa := Aside0.mk (blk_drew aa.out); replace ab := Aside0.mk (blk_drew ab.out); replace HB := Aside0.mk (below_drew1 HB.out); refine start_ (n := 14) (S := fun w' => w'.cell? ⟨af, 0, none⟩ = some (.slice A0_0 l0_0.length c0_0) ∧ w'.cell? ⟨af, 1, none⟩ = some (.slice A0_1 l0_1.length c0_1) ∧ w'.cell? ⟨ah, 0, none⟩ = some (.slice A1_0 l1_0.length c1_0) ∧ w'.cell? ⟨ah, 1, none⟩ = some (.slice A1_1 l1_1.length c1_1)) (ds := []) bl0 (by kernel_rfl) rfl rfl ⟨b1 aa 0, b1 aa 1, b1 ab 0, b1 ab 1⟩ (fun hHeld => ?_); refine with_tabW impl_WordSame.tab1 impl_WordSame.bits1 (fun HT_ HW_ => ?_); generalize aP.drew = bd at aa ab HB hHeld ⊢; refine tk_ 0 (some 5) bl1 HT_ HW_ hHeld ?_
   refine on_ 1 (some 6) bl2 HT_ (fun K hK => ?_); refine gs_ Try.func23 #[.agg #[.slice A0_0 l0_0.length c0_0, .slice A0_1 l0_1.length c0_1]] ?_
   with_reducible refine (impl_isRight.calls k _ _ l0_0 _ _ l0_1 true _ ?side1 ?side2 ?side3 ?side4 A3.out).mono ?_
   (case side1 => exact zC (Kd.C_below HR0_0.out HB.out))
   (case side2 => exact HC0_0.out)
   (case side3 => exact zC (Kd.C_below HR0_1.out HB.out))
   (case side4 => exact HC0_1.out)
   rintro e be ⟨rfl, hb⟩; refine ⟨_, rfl, ?_⟩; replace aa := xB aa hb; replace ab := xB ab hb; replace HB := xS HB hb
   (try clear hb)
   (try clear hb2)
   (try clear hk)
   (try clear hi)
   refine hK.out _ _ ⟨b1 aa 0, b1 aa 1, b1 ab 0, b1 ab 1⟩ (fun hHeld => ?_); clear hK K; refine nr_ (some 6) ?_
   refine pv_ 2 (some 7) bl3 HT_ ?_
   refine tk_ 3 (some 8) bl4 HT_ HW_ hHeld ?_
   refine on_ 4 (some 9) bl5 HT_ (fun K hK => ?_); refine gs_ Try.func23 #[.agg #[.slice A1_0 l1_0.length c1_0, .slice A1_1 l1_1.length c1_1]] ?_
   with_reducible refine (impl_isRight.calls k _ _ l1_0 _ _ l1_1 false _ ?side1 ?side2 ?side3 ?side4 A5.out).mono ?_
   (case side1 => exact zC (Kd.C_below HR1_0.out HB.out))
   (case side2 => exact HC1_0.out)
   (case side3 => exact zC (Kd.C_below HR1_1.out HB.out))
   (case side4 => exact HC1_1.out)
   rintro e bf ⟨rfl, hb⟩; refine ⟨_, rfl, ?_⟩; replace aa := xB aa hb; replace ab := xB ab hb; replace HB := xS HB hb
   (try clear hb)
   (try clear hb2)
   (try clear hk)
   (try clear hi)
   refine hK.out _ _ ⟨b1 aa 0, b1 aa 1, b1 ab 0, b1 ab 1⟩ (fun hHeld => ?_); clear hK K; refine nr_ (some 9) ?_
   refine pv_ 5 (some 10) bl6 HT_ ?_
   refine pv_ 6 (some 11) bl7 HT_ ?_
   refine pn_ 7 (some 12) bl8 HT_ ?_
   refine pn_ 8 (some 13) bl15 HT_ ?_
   refine pn_ 9 (some 14) bl10 HT_ ?_
   refine pn_ 10 (some 15) bl11 HT_ ?_
   refine pn_ 11 (some 16) bl12 HT_ ?_
   refine pv_ 12 (some 17) bl13 HT_ ?_
   refine pv_ 13 (some 4) bl14 HT_ ?_
   refine done_ (done_of HT_.out (by kernel_rfl)) ?_
   try go_wp2
   go_ret; exact ⟨vw, zS HB.out⟩
 ·replace c4 := Bool.eq_false_iff.mpr c4; subst c4
  have H1 : (some false) = some r := by rw [if_neg (show ¬ (false = true) by decide)] at H; exact H
  clear H; have H := H1; clear H1; obtain rfl := Option.some.inj H
  go_enter Try.func17, Try.ntmps17
  try go_wp2_with (first | ((with_reducible refine gate_dst (N := 2) rfl ?_); refine bx_ 2 #[.slice A0_0 l0_0.length c0_0, .slice A0_1 l0_1.length c0_1] 26 ?_; intro af hg bg hbox hb; have aa := Aside0.mk (hbox); have ar := xG HB hg; have au := xG HB hg; replace HB := xS HB hb; clear hb hbox hg) | ((with_reducible refine gate_dst (N := 3) rfl ?_); refine bx_ 3 #[.slice A1_0 l1_0.length c1_0, .slice A1_1 l1_1.length c1_1] 26 ?_; intro ah hg aQ hbox hb; have ab := Aside0.mk (hbox); have av := xG HB hg; have aw := xG HB hg; replace HB := xS HB hb; have ak := xN aa hg; have al := xM aa hg; replace aa := xB aa hb; clear hb hbox hg))
  replace aa := Aside0.mk (blk_drew aa.out); replace ab := Aside0.mk (blk_drew ab.out); replace HB := Aside0.mk (below_drew1 HB.out); refine start_ (n := 14) (S := fun w' => w'.cell? ⟨af, 0, none⟩ = some (.slice A0_0 l0_0.length c0_0) ∧ w'.cell? ⟨af, 1, none⟩ = some (.slice A0_1 l0_1.length c0_1)) (ds := []) bl0 (by kernel_rfl) rfl rfl ⟨b1 aa 0, b1 aa 1⟩ (fun hHeld => ?_); refine with_tabW impl_WordSame.tab1 impl_WordSame.bits1 (fun HT_ HW_ => ?_); generalize aQ.drew = bh at aa ab HB hHeld ⊢; refine tk_ 0 (some 5) bl1 HT_ HW_ hHeld ?_
  refine on_ 1 (some 6) bl2 HT_ (fun K hK => ?_); refine gs_ Try.func23 #[.agg #[.slice A0_0 l0_0.length c0_0, .slice A0_1 l0_1.length c0_1]] ?_
  with_reducible refine (impl_isRight.calls k _ _ l0_0 _ _ l0_1 false _ ?side1 ?side2 ?side3 ?side4 A3.out).mono ?_
  (case side1 => exact zC (Kd.C_below HR0_0.out HB.out))
  (case side2 => exact HC0_0.out)
  (case side3 => exact zC (Kd.C_below HR0_1.out HB.out))
  (case side4 => exact HC0_1.out)
  rintro e bi ⟨rfl, hb⟩; refine ⟨_, rfl, ?_⟩; replace aa := xB aa hb; replace ab := xB ab hb; replace HB := xS HB hb
  (try clear hb)
  (try clear hb2)
  (try clear hk)
  (try clear hi)
  refine hK.out _ _ ⟨b1 aa 0, b1 aa 1⟩ (fun hHeld => ?_); clear hK K; refine nr_ (some 6) ?_
  refine pv_ 2 (some 7) bl3 HT_ ?_
  refine pn_ 3 (some 8) bl4 HT_ ?_
  refine pn_ 4 (some 9) bl5 HT_ ?_
  refine pv_ 5 (some 10) bl6 HT_ ?_
  refine pv_ 6 (some 11) bl7 HT_ ?_
  refine pn_ 7 (some 12) bl8 HT_ ?_
  refine pn_ 8 (some 13) bl15 HT_ ?_
  refine pn_ 9 (some 14) bl10 HT_ ?_
  refine pn_ 10 (some 15) bl11 HT_ ?_
  refine pn_ 11 (some 16) bl12 HT_ ?_
  refine pv_ 12 (some 17) bl13 HT_ ?_
  refine pv_ 13 (some 4) bl14 HT_ ?_
  refine done_ (done_of HT_.out (by kernel_rfl)) ?_
  try go_wp2
  go_ret; exact ⟨vw, zS HB.out⟩


/-! ### laws_sameInts: function 18 -/
def laws_sameInts.l0 : Nat → List Int → List Int → Int → Option (Bool)
 | 0, _, _, _ => none
 | k + 1, x0, x1, x5 => if x5 < (x0.length : Int) then (if 0 ≤ x5 then (if x5 < (x1.length : Int) then (if (rd x0 x5) = (rd x1 x5) then (laws_sameInts.l0 k x0 x1 (wrap64 (x5 + 1))) else (some false)) else (none)) else (none)) else (some true)
def laws_sameInts.f (k : Nat) (l0 : List Int) (l1 : List Int) : Option (Bool) := if (l0.length : Int) = (l1.length : Int) then (laws_sameInts.l0 k l0 l1 0) else (some false)
theorem laws_sameInts.mono_l : ∀ k, (∀ y0 y1 y2, LeO (laws_sameInts.l0 k y0 y1 y2) (laws_sameInts.l0 (k + 1) y0 y1 y2))
 | 0 => fun _ _ _ r h => by simp [laws_sameInts.l0] at h
 | k + 1 => by
  have ih0 := laws_sameInts.mono_l k
  ·intro y0 y1 y2
   unfold laws_sameInts.l0
   repeat' first
   | (with_reducible exact ih0 _ _ _)
   | (with_reducible exact LeO.refl _)
   | (with_reducible exact LeO.none _)
   | (with_reducible refine LeO.ite ?_ ?_)
   | (with_reducible refine LeO.bind ?_ (fun _ => ?_))
   | exact ih0 _ _ _
   | exact LeO.none _
   | refine LeO.ite ?_ ?_
   | refine LeO.bind ?_ (fun _ => ?_)
theorem laws_sameInts.mono : ∀ a0 a1 k, LeO (laws_sameInts.f k a0 a1) (laws_sameInts.f (k + 1) a0 a1) := by
 intro a0 a1 k
 have ih0 := laws_sameInts.mono_l k
 unfold laws_sameInts.f
 repeat' first
   | (with_reducible exact ih0 _ _ _)
   | (with_reducible exact LeO.refl _)
   | (with_reducible exact LeO.none _)
   | (with_reducible refine LeO.ite ?_ ?_)
   | (with_reducible refine LeO.bind ?_ (fun _ => ?_))
   | exact ih0 _ _ _
   | exact LeO.none _
   | refine LeO.ite ?_ ?_
   | refine LeO.bind ?_ (fun _ => ?_)
open Go.Proofs.Ytbdcchbhelehcaa.Short2 in
set_option maxHeartbeats 8000000 in
set_option maxRecDepth 100000 in
theorem laws_sameInts.calls (k : Nat) (A0 : Option Addr) (c0 : Nat) (l0 : List Int) (A1 : Option Addr) (c1 : Nat) (l1 : List Int) (r : Bool) (w : World) (hr0 : Kd.C (Kd.int .i64) w A0 l0.length l0) (hc0 : l0.length ≤ c0) (hr1 : Kd.C (Kd.int .i64) w A1 l1.length l1) (hc1 : l1.length ≤ c1) (h : laws_sameInts.f k l0 l1 = some r) :
  Calls Try.prog 18 #[.slice A0 l0.length c0, .slice A1 l1.length c1] w fun e w' => e = .returned (.bool r) ∧ Drawn0 w w' := by
 have HR0 := Aside0.mk hr0; have HC0 := Aside0.mk hc0; clear hr0 hc0; have HR1 := Aside0.mk hr1; have HC1 := Aside0.mk hc1; clear hr1 hc1; have H : (if (l0.length : Int) = (l1.length : Int) then (laws_sameInts.l0 k l0 l1 0) else (some false)) = some r := h; clear h
 by_cases c3 : (l0.length : Int) = (l1.length : Int)
 ·rw [if_pos c3] at H; have ae : ((l0.length : Int) == (l1.length : Int)) = true := beq_iff_eq.mpr c3; have af : ((l0.length : Int) != (l1.length : Int)) = false := bne_eq_false_iff_eq.mpr c3
  have ag : (l0.length == l1.length) = true := by first | simpa using c3 | (simp at c3 ⊢; omega)
  clear c3; have H' := Aside0.mk H; clear H
  go_enter Try.func18, Try.ntmps18
  go_wp2
  repeat (go_quiet (fail); try go_wp2)
  go_loopg [5] k (fun kq v5 w' => ∃ (x5_1 : Int), v5 = .int .i64 x5_1 ∧ Aside0 (laws_sameInts.l0 kq l0 l1 x5_1 = some r) ∧ Aside0 (kq ≤ k) ∧ Drawn0 w w')
  case atStart => exact ⟨(0), vv, H', ⟨Nat.le_refl _⟩, by repeat (first | exact Drawn0.refl _ | apply Drawn0.step)⟩
  case round =>
   clear H'
   try clear c1
   try clear p2
   try clear c3
   try clear ae
   try clear af
   try clear ag
   obtain ⟨x5_1, rfl, HA, HK1, ⟨m1, rfl⟩⟩ := hrel
   cases gk with
   | zero => exact absurd HA.out (by simp [laws_sameInts.l0])
   | succ k1 =>
    have H := HA.out; clear HA; simp only [laws_sameInts.l0] at H
    by_cases c4 : x5_1 < (l0.length : Int)
    ·rw [if_pos c4] at H; have ah : decide (x5_1 < (l0.length : Int)) = true := decide_eq_true c4; clear c4
     by_cases c5 : 0 ≤ x5_1
     ·rw [if_pos c5] at H; have ak : decide (0 ≤ x5_1) = true := decide_eq_true c5; clear c5
      by_cases c6 : x5_1 < (l1.length : Int)
      ·rw [if_pos c6] at H; have al : decide (x5_1 < (l1.length : Int)) = true := decide_eq_true c6; clear c6
       by_cases c7 : (rd l0 x5_1) = (rd l1 x5_1)
       ·rw [if_pos c7] at H; have ai : ((rd l0 x5_1) == (rd l1 x5_1)) = true := beq_iff_eq.mpr c7; have aj : ((rd l0 x5_1) != (rd l1 x5_1)) = false := bne_eq_false_iff_eq.mpr c7; clear c7; have H' := Aside0.mk H; clear H; have aa : 0 ≤ (x5_1 : Int) := oD; have q485 : x5_1 < (l0.length : Int) := oD; obtain ⟨ad485, e485, ac⟩ := Kd.at_int HR0.out x5_1 aa q485
        cases e485
        replace aa := eq_true aa; replace q485 := eq_true q485; have ab : 0 ≤ (x5_1 : Int) := oD; have q486 : x5_1 < (l1.length : Int) := oD; obtain ⟨ad486, e486, ad⟩ := Kd.at_int HR1.out x5_1 ab q486
        cases e486
        replace ab := eq_true ab; replace q486 := eq_true q486
        go_wp2
        repeat (go_quiet (fail); try go_wp2)
        go_roundg k1
        case measure => have := HK1.out; omega
        case rel => exact ⟨(wrap64 (x5_1 + 1)), vv, H', ⟨by have := HK1.out; omega⟩, by repeat (first | exact Drawn0.refl _ | apply Drawn0.step)⟩
       ·rw [if_neg c7] at H; have ai : ((rd l0 x5_1) == (rd l1 x5_1)) = false := beq_eq_false_iff_ne.mpr c7; have aj : ((rd l0 x5_1) != (rd l1 x5_1)) = true := bne_iff_ne.mpr c7; obtain rfl := Option.some.inj H; have aa : 0 ≤ (x5_1 : Int) := oD; have q485 : x5_1 < (l0.length : Int) := oD; obtain ⟨ad485, e485, ac⟩ := Kd.at_int HR0.out x5_1 aa q485
        cases e485
        replace aa := eq_true aa; replace q485 := eq_true q485; have ab : 0 ≤ (x5_1 : Int) := oD; have q486 : x5_1 < (l1.length : Int) := oD; obtain ⟨ad486, e486, ad⟩ := Kd.at_int HR1.out x5_1 ab q486
        cases e486
        replace ab := eq_true ab; replace q486 := eq_true q486
        go_wp2
        repeat (go_quiet (fail); try go_wp2)
        go_ret; exact ⟨by first | rfl | (simp; done) | (simp [*]; done), by repeat (first | exact Drawn0.refl _ | apply Drawn0.step)⟩
      ·rw [if_neg c6] at H; exact absurd H (by simp)
     ·rw [if_neg c5] at H; exact absurd H (by simp)
    ·rw [if_neg c4] at H; have ah : decide (x5_1 < (l0.length : Int)) = false := decide_eq_false c4; clear c4; obtain rfl := Option.some.inj H
     go_wp2
     repeat (go_quiet (fail); try go_wp2)
     go_ret; exact ⟨by first | rfl | (simp; done) | (simp [*]; done), by repeat (first | exact Drawn0.refl _ | apply Drawn0.step)⟩
 ·rw [if_neg c3] at H; have ae : ((l0.length : Int) == (l1.length : Int)) = false := beq_eq_false_iff_ne.mpr c3; have af : ((l0.length : Int) != (l1.length : Int)) = true := bne_iff_ne.mpr c3
  have ag : (l0.length == l1.length) = false := by first | simpa using c3 | (simp at c3 ⊢; omega)
  obtain rfl := Option.some.inj H
  go_enter Try.func18, Try.ntmps18
  go_wp2
  repeat (go_quiet (fail); try go_wp2)
  go_ret; exact ⟨by first | rfl | (simp; done) | (simp [*]; done), by repeat (first | exact Drawn0.refl _ | apply Drawn0.step)⟩


/-! ### impl_WordTake: function 19 -/
mutual
def impl_WordTake.j0 : Nat → Int → Bool → List Int → List Int → Option (List Int)
 | 0, _, _, _, _ => none
 | k + 1, x1, x14, x488000, x488001 => if x14 = true then (some ([] : List Int)) else (impl_WordTake.l0 k ([] : List Int) x1 0 x488000 x488001)
def impl_WordTake.l0 : Nat → List Int → Int → Int → List Int → List Int → Option (List Int)
 | 0, _, _, _, _, _ => none
 | k + 1, x5, x15, x16, x488000, x488001 => if x16 < x15 then ((impl_Word_placeOf.f x488000 x488001 x16).bind fun t490 => ((impl_Word_letter.f x488000 x488001 t490).bind fun t491 => (if x5.length < 17592186044416 then (impl_WordTake.l0 k (x5 ++ [t491]) x15 (wrap64 (x16 + 1)) x488000 x488001) else (none)))) else (some x5)
end
def impl_WordTake.f (k : Nat) (l0_0 : List Int) (l0_1 : List Int) (a1 : Int) : Option (List Int) := (impl_inRange.f a1 0 1000).bind fun t488 => (if t488 = true then ((impl_isRight.f k l0_0 l0_1).bind fun t489 => (impl_WordTake.j0 k a1 (!t489) l0_0 l0_1)) else (impl_WordTake.j0 k a1 true l0_0 l0_1))
theorem impl_WordTake.mono_l : ∀ k, (∀ y0 y1 y2 y3, LeO (impl_WordTake.j0 k y0 y1 y2 y3) (impl_WordTake.j0 (k + 1) y0 y1 y2 y3)) ∧ (∀ y0 y1 y2 y3 y4, LeO (impl_WordTake.l0 k y0 y1 y2 y3 y4) (impl_WordTake.l0 (k + 1) y0 y1 y2 y3 y4))
 | 0 => ⟨fun _ _ _ _ r h => by simp [impl_WordTake.j0] at h, fun _ _ _ _ _ r h => by simp [impl_WordTake.l0] at h⟩
 | k + 1 => by
  obtain ⟨ih0, ih1⟩ := impl_WordTake.mono_l k
  refine ⟨?_, ?_⟩
  ·intro y0 y1 y2 y3
   unfold impl_WordTake.j0
   repeat' first
   | (with_reducible exact ih0 _ _ _ _)
   | (with_reducible exact ih1 _ _ _ _ _)
   | (with_reducible exact impl_isRight.mono _ _ _)
   | (with_reducible exact LeO.refl _)
   | (with_reducible exact LeO.none _)
   | (with_reducible refine LeO.ite ?_ ?_)
   | (with_reducible refine LeO.bind ?_ (fun _ => ?_))
   | exact ih0 _ _ _ _
   | exact ih1 _ _ _ _ _
   | exact impl_isRight.mono _ _ _
   | exact LeO.none _
   | refine LeO.ite ?_ ?_
   | refine LeO.bind ?_ (fun _ => ?_)
  ·intro y0 y1 y2 y3 y4
   unfold impl_WordTake.l0
   repeat' first
   | (with_reducible exact ih0 _ _ _ _)
   | (with_reducible exact ih1 _ _ _ _ _)
   | (with_reducible exact impl_isRight.mono _ _ _)
   | (with_reducible exact LeO.refl _)
   | (with_reducible exact LeO.none _)
   | (with_reducible refine LeO.ite ?_ ?_)
   | (with_reducible refine LeO.bind ?_ (fun _ => ?_))
   | exact ih0 _ _ _ _
   | exact ih1 _ _ _ _ _
   | exact impl_isRight.mono _ _ _
   | exact LeO.none _
   | refine LeO.ite ?_ ?_
   | refine LeO.bind ?_ (fun _ => ?_)
theorem impl_WordTake.mono : ∀ a0 a1 a2 k, LeO (impl_WordTake.f k a0 a1 a2) (impl_WordTake.f (k + 1) a0 a1 a2) := by
 intro a0 a1 a2 k
 obtain ⟨ih0, ih1⟩ := impl_WordTake.mono_l k
 unfold impl_WordTake.f
 repeat' first
   | (with_reducible exact ih0 _ _ _ _)
   | (with_reducible exact ih1 _ _ _ _ _)
   | (with_reducible exact impl_isRight.mono _ _ _)
   | (with_reducible exact LeO.refl _)
   | (with_reducible exact LeO.none _)
   | (with_reducible refine LeO.ite ?_ ?_)
   | (with_reducible refine LeO.bind ?_ (fun _ => ?_))
   | exact ih0 _ _ _ _
   | exact ih1 _ _ _ _ _
   | exact impl_isRight.mono _ _ _
   | exact LeO.none _
   | refine LeO.ite ?_ ?_
   | refine LeO.bind ?_ (fun _ => ?_)
open Go.Proofs.Ytbdcchbhelehcaa.Short2 in
set_option maxHeartbeats 8000000 in
set_option maxRecDepth 100000 in
theorem impl_WordTake.calls (k : Nat) (A0_0 : Option Addr) (c0_0 : Nat) (l0_0 : List Int) (A0_1 : Option Addr) (c0_1 : Nat) (l0_1 : List Int) (a1 : Int) (r : List Int) (w : World) (hr0_0 : Kd.C (Kd.int .i64) w A0_0 l0_0.length l0_0) (hc0_0 : l0_0.length ≤ c0_0) (hr0_1 : Kd.C (Kd.int .i64) w A0_1 l0_1.length l0_1) (hc0_1 : l0_1.length ≤ c0_1) (h : impl_WordTake.f k l0_0 l0_1 a1 = some r) :
  Calls Try.prog 19 #[.agg #[.slice A0_0 l0_0.length c0_0, .slice A0_1 l0_1.length c0_1], .int .i64 a1] w fun e w' => ∃ v0_ : Value, e = .returned (v0_) ∧ Kd.R (Kd.int .i64) 3 w' w.heap.size (fun _ => True) v0_ r ∧ Below w.heap.size w w' := by
 have hu26 := Try.underlying26; have HR0_0 := Aside0.mk hr0_0; have HC0_0 := Aside0.mk hc0_0; clear hr0_0 hc0_0; have HR0_1 := Aside0.mk hr0_1; have HC0_1 := Aside0.mk hc0_1; clear hr0_1 hc0_1; have HB := Aside0.mk (Below.refl w.heap.size w); have H : ((impl_inRange.f a1 0 1000).bind fun am => (if am = true then ((impl_isRight.f k l0_0 l0_1).bind fun ae => (impl_WordTake.j0 k a1 (!ae) l0_0 l0_1)) else (impl_WordTake.j0 k a1 true l0_0 l0_1))) = some r := h; clear h; have HC3 := Aside0.mk H; clear H
 go_enter Try.func19, Try.ntmps19
 go_upto_region 1 with (first | ((with_reducible refine gate_dst (N := 2) rfl ?_); refine bx_ 2 #[.slice A0_0 l0_0.length c0_0, .slice A0_1 l0_1.length c0_1] 26 ?_; intro ab hg w4 hbox hb; have ac := Aside0.mk (hbox); have az := xG HB hg; have aM := xG HB hg; replace HB := xS HB hb; clear hb hbox hg))
 (try simp only [Act.put, q3])
 go_cut [14] (fun aH wc => ∃ (kq : Nat) (ak : Bool), aH = .bool ak ∧ Aside0 (impl_WordTake.j0 kq a1 ak l0_0 l0_1 = some r) ∧ Aside0 (kq ≤ k) ∧ Aside0 (wc.heap[ab]? = some (.cells #[(.slice A0_0 l0_0.length c0_0), (.slice A0_1 l0_1.length c0_1)] 26 (0, 0))) ∧ Aside0 (Below w.heap.size w wc))
 case first =>
  have H := HC3.out; clear HC3; replace H := bI H; obtain ⟨am, aE, H⟩ := H; replace H : (if am = true then ((impl_isRight.f k l0_0 l0_1).bind fun ae => (impl_WordTake.j0 k a1 (!ae) l0_0 l0_1)) else (impl_WordTake.j0 k a1 true l0_0 l0_1)) = some r := H; have A5 := Aside0.mk aE; clear aE
  by_cases c6 : am = true
  ·subst c6
   have H1 : ((impl_isRight.f k l0_0 l0_1).bind fun ae => (impl_WordTake.j0 k a1 (!ae) l0_0 l0_1)) = some r := by rw [if_pos rfl] at H; exact H
   clear H; have H := H1; clear H1; replace H := bI H; obtain ⟨ae, aG, H⟩ := H; replace H : (impl_WordTake.j0 k a1 (!ae) l0_0 l0_1) = some r := H; have A7 := Aside0.mk aG; clear aG; have H' := Aside0.mk H; clear H
   go_wp2_with (first | ((with_reducible refine gate_callee (f := 31) rfl ?_); refine gl_ (some 8) Try.func31 #[.int .i64 a1, .int .i64 0, .int .i64 1000] ?_; (with_reducible refine (impl_inRange.calls a1 0 1000 true _ A5.out).mono ?_); rintro e w' ⟨rfl, ⟨nd, rfl⟩⟩; refine ⟨_, rfl, ?_⟩; obtain ⟨ao, ap, aq, ar⟩ := cz2 ac) | (go_at_call 23; (with_reducible refine (impl_isRight.calls k _ _ l0_0 _ _ l0_1 ae _ ?side1 ?side2 ?side3 ?side4 A7.out).mono ?_); (case side1 => repeat (first | exact (Kd.C_below HR0_0.out (zS HB.out)) | (with_reducible refine Kd.C_alloc ?_ _) | (with_reducible refine Kd.C_drewN ?_ _) | (with_reducible refine Kd.C_drew ?_))); (case side2 => exact HC0_0.out); (case side3 => repeat (first | exact (Kd.C_below HR0_1.out (zS HB.out)) | (with_reducible refine Kd.C_alloc ?_ _) | (with_reducible refine Kd.C_drewN ?_ _) | (with_reducible refine Kd.C_drew ?_))); (case side4 => exact HC0_1.out); rintro e w9 ⟨rfl, hb⟩; replace ac := xB ac hb; replace HB := xS HB hb; (try clear hb); (try clear hb2); (try clear hk); (try clear hi)))
   go_meet
   case rel => exact ⟨_, (!ae), vv, H', ⟨by first | omega | exact Nat.le_refl _⟩, ⟨zB ac.out⟩, ⟨zS HB.out⟩⟩
  ·replace c6 := Bool.eq_false_iff.mpr c6; subst c6
   have H1 : (impl_WordTake.j0 k a1 true l0_0 l0_1) = some r := by rw [if_neg (show ¬ (false = true) by decide)] at H; exact H
   clear H; have H := H1; clear H1; have H' := Aside0.mk H; clear H
   go_wp2_with (first | ((with_reducible refine gate_callee (f := 31) rfl ?_); refine gl_ (some 8) Try.func31 #[.int .i64 a1, .int .i64 0, .int .i64 1000] ?_; (with_reducible refine (impl_inRange.calls a1 0 1000 false _ A5.out).mono ?_); rintro e w' ⟨rfl, ⟨nd, rfl⟩⟩; refine ⟨_, rfl, ?_⟩))
   go_meet
   case rel => exact ⟨_, (true), vv, H', ⟨by first | omega | exact Nat.le_refl _⟩, ⟨zB ac.out⟩, ⟨zS HB.out⟩⟩
 case rest =>
  clear HC3
  try clear c1
  try clear p2
  try clear c3
  try clear c6
  try clear ao ap aq ar
  obtain ⟨kq, ak, rfl, HA, HJ2, ac, HB⟩ := hcut
  cases kq with
  | zero => exact absurd HA.out (by simp [impl_WordTake.j0])
  | succ kj2 =>
   have H := HA.out; clear HA; simp only [impl_WordTake.j0] at H
   by_cases au : ak = true
   ·subst au
    have H1 : (some ([] : List Int)) = some r := by rw [if_pos rfl] at H; exact H
    clear H; have H := H1; clear H1; obtain rfl := Option.some.inj H
    go_wp2
    go_ret; exact ⟨_, vw, by first | exact Kd.R_nil _ _ _ _ _ | exact Kd.N_nil _ _ _ _ _ | exact Kd.V_nil _ _ _ _ _ | exact Kd.Q_nil _ _ _ _ _ | exact Kd.S_nil _ _ _ _ _, zS HB.out⟩
   ·replace au := Bool.eq_false_iff.mpr au; subst au
    have H1 : (impl_WordTake.l0 kj2 ([] : List Int) a1 0 l0_0 l0_1) = some r := by rw [if_neg (show ¬ (false = true) by decide)] at H; exact H
    clear H; have H := H1; clear H1; have H' := Aside0.mk H; clear H; have HI487 := Aside0.mk (show IsS26 w wc ab l0_0 l0_1 from ⟨A0_0, c0_0, A0_1, c0_1, ac.out, az.out, HR0_0.out, HR0_1.out⟩); clear ac
    go_wp2
    go_loopg [5, 16] kj2 (fun kq v5 aI w' => ∃ (x5_2 : List Int) (aa : Int), aI = .int .i64 aa ∧ Aside0 (impl_WordTake.l0 kq x5_2 a1 aa l0_0 l0_1 = some r) ∧ Aside0 (kq ≤ kj2) ∧ Aside0 (Kd.R (Kd.int .i64) 3 w' w.heap.size (fun _ => True) v5 x5_2) ∧ Aside0 (IsS26 w w' ab l0_0 l0_1) ∧ Aside0 (Below w.heap.size w w'))
    case atStart => exact ⟨(([] : List Int)), (0), vv, H', ⟨Nat.le_refl _⟩, ⟨by first | exact Kd.R_nil _ _ _ _ _ | exact Kd.N_nil _ _ _ _ _ | exact Kd.V_nil _ _ _ _ _ | exact Kd.Q_nil _ _ _ _ _ | exact Kd.S_nil _ _ _ _ _⟩, ⟨by repeat (first | (with_reducible first | exact HI487.out | apply IsS26.alloc | apply IsS26.drewN | apply IsS26.drew) | exact HI487.out)⟩, ⟨by repeat (first | (with_reducible first | exact HB.out | apply below_alloc | apply pw_below_drewN | apply below_drew1 | refine below_set ?_ (IsS26.ge HI487.out)) | exact HB.out)⟩⟩
    case round =>
     clear H'
     try clear c1
     try clear p2
     try clear c3
     try clear c6
     try clear au
     try clear ao ap aq ar
     try clear p2
     obtain ⟨x5_2, aa, rfl, HA, HK2, ad, HI487, HB⟩ := hrel
     cases gk with
     | zero => exact absurd HA.out (by simp [impl_WordTake.l0])
     | succ k2 =>
      have H := HA.out; clear HA; simp only [impl_WordTake.l0] at H
      by_cases al : aa < a1
      ·rw [if_pos al] at H; have aA : decide (aa < a1) = true := decide_eq_true al; clear al; replace H := bI H; obtain ⟨an, aw, H⟩ := H; replace H : ((impl_Word_letter.f l0_0 l0_1 an).bind fun af => (if x5_2.length < 17592186044416 then (impl_WordTake.l0 k2 (x5_2 ++ [af]) a1 (wrap64 (aa + 1)) l0_0 l0_1) else (none))) = some r := H; have aJ := Aside0.mk aw; clear aw; replace H := bI H; obtain ⟨af, ax, H⟩ := H; replace H : (if x5_2.length < 17592186044416 then (impl_WordTake.l0 k2 (x5_2 ++ [af]) a1 (wrap64 (aa + 1)) l0_0 l0_1) else (none)) = some r := H; have aK := Aside0.mk ax; clear ax
       by_cases av : x5_2.length < 17592186044416
       ·rw [if_pos av] at H; have LMc14 := Aside0.mk av; clear av; obtain ⟨ay, ag⟩ : ∃ y_ : List Int, y_ = (x5_2 ++ [af]) := ⟨_, rfl⟩
        replace H : (impl_WordTake.l0 k2 ay a1 (wrap64 (aa + 1)) l0_0 l0_1) = some r := by first | (rw [ag]; with_reducible exact H) | (have H2_ := (Option.bind_some _ _).symm.trans H; rw [ag]; with_reducible exact H2_) | (have H2_ := (Option.bind_some _ _).symm.trans H; with_reducible exact H2_) | with_reducible exact H | (rw [ag]; exact H) | exact H
        have aC := Aside0.mk ag; clear ag; have H' := Aside0.mk H; clear H
        go_wp2_with (first | ((with_reducible refine gate_callee (f := 30) rfl ?_); refine gl_ (some 21) Try.func30 #[.pointer (some ⟨ab, 0, none⟩), .int .i64 aa] ?_; (with_reducible refine (impl_Word_placeOf.calls ab l0_0 l0_1 aa an w _ ?side1 ?side2 aJ.out).mono ?_); (case side1 => repeat (first | (with_reducible first | exact HI487.out | apply IsS26.alloc | apply IsS26.drewN | apply IsS26.drew) | exact HI487.out)); (case side2 => repeat (first | (with_reducible first | exact HB.out | apply below_alloc | apply pw_below_drewN | apply below_drew1 | refine below_set ?_ (IsS26.ge HI487.out)) | exact HB.out)); rintro e aQ ⟨rfl, hi, hb, hk⟩; refine ⟨_, rfl, ?_⟩; have ah := Aside0.mk (Kd.R_mono (Kd.R_keep (IsS26.apart (show IsS26 w _ ab l0_0 l0_1 from by repeat (first | (with_reducible first | exact HI487.out | apply IsS26.alloc | apply IsS26.drewN | apply IsS26.drew) | exact HI487.out)) (zR ad.out) (by decide)) hk (fun _ h => h.2)) (fun _ h => h.1)); have ai := Aside0.mk (hb); have aj := Aside0.mk (hi); clear ad; clear HB; clear HI487; have ad := ah; have HB := ai; have HI487 := aj; clear ah ai aj; (try clear hb); (try clear hb2); (try clear hk); (try clear hi)) | ((with_reducible refine gate_callee (f := 29) rfl ?_); refine gl_ (some 22) Try.func29 #[.pointer (some ⟨ab, 0, none⟩), .int .i64 an] ?_; (with_reducible refine (impl_Word_letter.calls ab l0_0 l0_1 an af w _ ?side1 ?side2 aK.out).mono ?_); (case side1 => repeat (first | (with_reducible first | exact HI487.out | apply IsS26.alloc | apply IsS26.drewN | apply IsS26.drew) | exact HI487.out)); (case side2 => repeat (first | (with_reducible first | exact HB.out | apply below_alloc | apply pw_below_drewN | apply below_drew1 | refine below_set ?_ (IsS26.ge HI487.out)) | exact HB.out)); rintro e aR ⟨rfl, hi, hb, hk⟩; refine ⟨_, rfl, ?_⟩; have ah := Aside0.mk (Kd.R_mono (Kd.R_keep (IsS26.apart (show IsS26 w _ ab l0_0 l0_1 from by repeat (first | (with_reducible first | exact HI487.out | apply IsS26.alloc | apply IsS26.drewN | apply IsS26.drew) | exact HI487.out)) (zR ad.out) (by decide)) hk (fun _ h => h.2)) (fun _ h => h.1)); have ai := Aside0.mk (hb); have aj := Aside0.mk (hi); clear ad; clear HB; clear HI487; have ad := ah; have HB := ai; have HI487 := aj; clear ah ai aj; (try clear hb); (try clear hb2); (try clear hk); (try clear hi)) | ((with_reducible refine gate_builtin (b := .append) (xs := #[.tmp 19, .tmp 23]) rfl ?_); at_builtin; refine Kd.R_append (Kd.int .i64) (w0 := w) w.heap.size rfl (.tmp 19) (.tmp 23) 24 3 (.int .i64 0) 8 rfl Try.underlying24 info3 rfl (by decide) (by omega) u5 x5_2 af [.int .i64 af] (fun _ => True) (fun _ => False) rfl rfl ?aP (fun _ hk => hk.elim) ?aF ?aO ?aB ?aS ?aL ?_; (case aP => exact rfl); (case aB => exact (by repeat (first | (with_reducible first | exact HB.out | apply below_alloc | apply pw_below_drewN | apply below_drew1 | refine below_set ?_ (IsS26.ge HI487.out)) | exact HB.out))); (case aF => exact (fun _ _ => trivial)); (case aO => exact (zR ad.out)); (case aS => exact (below_size (by repeat (first | (with_reducible first | exact HB.out | apply below_alloc | apply pw_below_drewN | apply below_drew1 | refine below_set ?_ (IsS26.ge HI487.out)) | exact HB.out)))); (case aL => have := LMc14.out; omega); intro aN aT ho hb hg hat; rw [← aC.out] at ho; have ah := Aside0.mk (IsS26.grown (by repeat (first | (with_reducible first | exact HI487.out | apply IsS26.alloc | apply IsS26.drewN | apply IsS26.drew) | exact HI487.out)) hg (IsS26.own_ne HI487.out ad.out (by decide))); have ai := Aside0.mk (hb); have aj := Aside0.mk (ho); clear HI487; clear HB; clear ad; have HI487 := ah; have HB := ai; have aD := aj; clear ah ai aj; clear ho hb hg hat))
        go_roundg k2
        case measure => have := HJ2.out; have := HK2.out; omega
        case rel => exact ⟨(ay), (wrap64 (aa + 1)), vv, H', ⟨by have := HJ2.out; have := HK2.out; omega⟩, ⟨zR aD.out⟩, ⟨by repeat (first | (with_reducible first | exact HI487.out | apply IsS26.alloc | apply IsS26.drewN | apply IsS26.drew) | exact HI487.out)⟩, ⟨by repeat (first | (with_reducible first | exact HB.out | apply below_alloc | apply pw_below_drewN | apply below_drew1 | refine below_set ?_ (IsS26.ge HI487.out)) | exact HB.out)⟩⟩
       ·rw [if_neg av] at H; exact absurd H (by simp)
      ·rw [if_neg al] at H; have aA : decide (aa < a1) = false := decide_eq_false al; clear al; obtain rfl := Option.some.inj H
       go_wp2
       go_ret; exact ⟨_, vw, by (with_reducible repeat (first | apply Kd.R_alloc | apply Kd.R_drewN | apply Kd.R_drew)); exact ad.out, by repeat (first | (with_reducible first | exact HB.out | apply below_alloc | apply pw_below_drewN | apply below_drew1 | refine below_set ?_ (IsS26.ge HI487.out)) | exact HB.out)⟩

end Go.Proofs.Ytbdcchbhelehcaa.MFnLetters3
