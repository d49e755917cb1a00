-- Written by a program of this session, out of Lean's print of the translation. Not trusted: Lean checks it.
import Derived.Test.YthkljpbddddhdaaMFnJoin3x0
namespace Go.Proofs.Ythkljpbddddhdaa.MFnJoin3
open Go.RowKit Go.Proofs.YthkljpbddddhdaaW.PrintWords Go.Proofs.YthkljpbddddhdaaW.PrintLast Go.Proofs.YthkljpbddddhdaaW.PrintMore
attribute [local go_sem] max2_int min2_int max_two min_two max_three min_three max_four min_four   -- for this text's walks alone
set_option linter.unusedVariables false
set_option linter.unusedSimpArgs false

/-! ### impl_inRange: function 52 -/
def impl_inRange.f (a0 : Int) (a1 : Int) (a2 : Int) : Option (Bool) := if a0 ≥ a1 then (some (decide (a0 ≤ a2))) else (some false)
set_option maxHeartbeats 8000000 in
set_option maxRecDepth 100000 in
theorem impl_inRange.calls (a0 : Int) (a1 : Int) (a2 : Int) (r : Bool) (w : World) (h : impl_inRange.f a0 a1 a2 = some r) :
    Calls Try.prog 52 #[.int .i64 a0, .int .i64 a1, .int .i64 a2] w fun e w' => e = .returned (.bool r) ∧ Drawn0 w w' := by
  have H : (if a0 ≥ a1 then (some (decide (a0 ≤ a2))) else (some false)) = some r := h
  clear h
  by_cases c4 : a0 ≥ a1
  · rw [if_pos c4] at H
    have aa : decide (a1 ≤ a0) = true := decide_eq_true c4
    clear c4
    obtain rfl := Option.some.inj H
    go_enter Try.func52, Try.ntmps52
    go_wp2
    go_ret
    exact ⟨by first | rfl | (simp; done) | (simp [*]; done), by repeat (first | exact Drawn0.refl _ | apply Drawn0.step)⟩
  · rw [if_neg c4] at H
    have aa : decide (a1 ≤ a0) = false := decide_eq_false c4
    clear c4
    obtain rfl := Option.some.inj H
    go_enter Try.func52, Try.ntmps52
    go_wp2
    go_ret
    exact ⟨by first | rfl | (simp; done) | (simp [*]; done), by repeat (first | exact Drawn0.refl _ | apply Drawn0.step)⟩

/-! ### impl_isLetters: function 51 -/
def impl_isLetters.f (a0 : Int) : Option (Bool) := (impl_inRange.f a0 1 8).bind fun t101 => (some t101)
set_option maxHeartbeats 8000000 in
set_option maxRecDepth 100000 in
theorem impl_isLetters.calls (a0 : Int) (r : Bool) (w : World) (h : impl_isLetters.f a0 = some r) :
    Calls Try.prog 51 #[.int .i64 a0] w fun e w' => e = .returned (.bool r) ∧ Drawn0 w w' := by
  have H : ((impl_inRange.f a0 1 8).bind fun aa => (some aa)) = some r := h
  clear h
  replace H := Option.bind_eq_some_iff.mp H
  obtain ⟨aa, ab, H⟩ := H
  replace H : (some aa) = some r := H
  have A2 := Aside0.mk ab
  clear ab
  obtain rfl := Option.some.inj H
  go_enter Try.func51, Try.ntmps51
  go_wp2_with (first | ((with_reducible refine gate_callee (f := 52) rfl ?_); refine goesL_ (some 4) rfl rfl Try.func52 (by kernel_rfl) rfl #[.int .i64 a0, .int .i64 1, .int .i64 8] rfl (by (try simp only [List.map_toArray, List.map_cons, List.map_nil]); first | done | rfl | (simp only [List.length_drop, List.length_take]; rfl)) ?_; (with_reducible refine (impl_inRange.calls a0 1 8 aa _ A2.out).mono ?_); rintro e w' ⟨rfl, ⟨nd, rfl⟩⟩; refine ⟨_, rfl, ?_⟩))
  go_ret
  exact ⟨by first | rfl | (simp; done) | (simp [*]; done), by repeat (first | exact Drawn0.refl _ | apply Drawn0.step)⟩

/-! ### impl_areLetters: function 53 -/
def impl_areLetters.l0 : Nat → Int → List Int → Int → Int → Option (Bool)
  | 0, _, _, _, _ => none
  | k + 1, x1, x7, x8, x9 => if x9 < x8 then (if 0 ≤ x9 then (if x9 < (x7.length : Int) then ((impl_inRange.f (rd x7 x9) 0 (wrap64 (x1 - 1))).bind fun t103 => (if t103 = true then (impl_areLetters.l0 k x1 x7 x8 (wrap64 (x9 + 1))) else (some false))) else (none)) else (none)) else (some true)
def impl_areLetters.f (k : Nat) (l0 : List Int) (a1 : Int) : Option (Bool) := impl_areLetters.l0 k a1 l0 (l0.length : Int) 0
theorem impl_areLetters.mono_l : ∀ k, (∀ y0 y1 y2 y3, LeO (impl_areLetters.l0 k y0 y1 y2 y3) (impl_areLetters.l0 (k + 1) y0 y1 y2 y3))
  | 0 => fun _ _ _ _ r h => by simp [impl_areLetters.l0] at h
  | k + 1 => by
    have ih0 := impl_areLetters.mono_l k
    · intro y0 y1 y2 y3
      unfold impl_areLetters.l0
      repeat' first
      | (with_reducible exact ih0 _ _ _ _)
      | (with_reducible exact LeO.refl _)
      | (with_reducible exact LeO.none _)
      | (with_reducible refine LeO.ite ?_ ?_)
      | (with_reducible refine LeO.bind ?_ (fun _ => ?_))
      | exact ih0 _ _ _ _
      | exact LeO.none _
      | refine LeO.ite ?_ ?_
      | refine LeO.bind ?_ (fun _ => ?_)
theorem impl_areLetters.mono : ∀ a0 a1 k, LeO (impl_areLetters.f k a0 a1) (impl_areLetters.f (k + 1) a0 a1) := by
  intro a0 a1 k
  have ih0 := impl_areLetters.mono_l k
  unfold impl_areLetters.f
  repeat' first
      | (with_reducible exact ih0 _ _ _ _)
      | (with_reducible exact LeO.refl _)
      | (with_reducible exact LeO.none _)
      | (with_reducible refine LeO.ite ?_ ?_)
      | (with_reducible refine LeO.bind ?_ (fun _ => ?_))
      | exact ih0 _ _ _ _
      | exact LeO.none _
      | refine LeO.ite ?_ ?_
      | refine LeO.bind ?_ (fun _ => ?_)
set_option maxHeartbeats 8000000 in
set_option maxRecDepth 100000 in
theorem impl_areLetters.calls (k : Nat) (A0 : Option Addr) (c0 : Nat) (l0 : List Int) (a1 : Int) (r : Bool) (w : World) (hr0 : Kd.C (Kd.int .i64) w A0 l0.length l0) (hc0 : l0.length ≤ c0) (h : impl_areLetters.f k l0 a1 = some r) :
    Calls Try.prog 53 #[.slice A0 l0.length c0, .int .i64 a1] w fun e w' => e = .returned (.bool r) ∧ Drawn0 w w' := by
  have HR0 := Aside0.mk hr0
  have HC0 := Aside0.mk hc0
  clear hr0 hc0
  have H : (impl_areLetters.l0 k a1 l0 (l0.length : Int) 0) = some r := h
  clear h
  have H' := Aside0.mk H
  clear H
  go_enter Try.func53, Try.ntmps53
  go_wp2
  go_loopg [9] k (fun kq v9 w' => ∃ (x9_1 : Int), v9 = .int .i64 x9_1 ∧ Aside0 (impl_areLetters.l0 kq a1 l0 (l0.length : Int) x9_1 = some r) ∧ Aside0 (kq ≤ k) ∧ Drawn0 w w')
  case atStart => exact ⟨(0), (by first | rfl | (simp; done) | (simp [*]; done) | (rw [Int.tmod_eq_emod_of_nonneg (Int.natCast_nonneg _)]; done)), H', ⟨Nat.le_refl _⟩, by repeat (first | exact Drawn0.refl _ | apply Drawn0.step)⟩
  case round =>
    clear H'
    try clear p2
    obtain ⟨x9_1, rfl, HA, HK1, ⟨m1, rfl⟩⟩ := hrel
    cases gk with
    | zero => exact absurd HA.out (by simp [impl_areLetters.l0])
    | succ k1 =>
      have H := HA.out
      clear HA
      simp only [impl_areLetters.l0] at H
      by_cases c3 : x9_1 < (l0.length : Int)
      · rw [if_pos c3] at H
        have ae : decide (x9_1 < (l0.length : Int)) = true := decide_eq_true c3
        clear c3
        by_cases c4 : 0 ≤ x9_1
        · rw [if_pos c4] at H
          have af : decide (0 ≤ x9_1) = true := decide_eq_true c4
          clear c4
          by_cases c5 : x9_1 < (l0.length : Int)
          · rw [if_pos c5] at H
            have ag : decide (x9_1 < (l0.length : Int)) = true := decide_eq_true c5
            clear c5
            replace H := Option.bind_eq_some_iff.mp H
            obtain ⟨ac, ad, H⟩ := H
            replace H : (if ac = true then (impl_areLetters.l0 k1 a1 l0 (l0.length : Int) (wrap64 (x9_1 + 1))) else (some false)) = some r := H
            have A6 := Aside0.mk ad
            clear ad
            by_cases c7 : ac = true
            · subst c7
              have H1 : (impl_areLetters.l0 k1 a1 l0 (l0.length : Int) (wrap64 (x9_1 + 1))) = some r := by rw [if_pos rfl] at H; exact H
              clear H
              have H := H1
              clear H1
              have H' := Aside0.mk H
              clear H
              have aa : 0 ≤ (x9_1 : Int) := of_decide_eq_true (by first | (with_reducible assumption) | assumption)
              have q102 : x9_1 < (l0.length : Int) := of_decide_eq_true (by first | (with_reducible assumption) | assumption)
              obtain ⟨ad102, e102, ab⟩ := Kd.at_int HR0.out x9_1 aa q102
              cases e102
              replace aa := eq_true aa
              replace q102 := eq_true q102
              go_wp2_with (first | ((with_reducible refine gate_callee (f := 52) rfl ?_); refine goesL_ (some 16) rfl rfl Try.func52 (by kernel_rfl) rfl #[.int .i64 (rd l0 x9_1), .int .i64 0, .int .i64 (wrap64 (a1 - 1))] rfl (by (try simp only [List.map_toArray, List.map_cons, List.map_nil]); first | done | rfl | (simp only [List.length_drop, List.length_take]; rfl)) ?_; (with_reducible refine (impl_inRange.calls (rd l0 x9_1) 0 (wrap64 (a1 - 1)) true _ A6.out).mono ?_); rintro e w' ⟨rfl, ⟨nd, rfl⟩⟩; refine ⟨_, rfl, ?_⟩))
              go_roundg k1
              case measure => have := HK1.out; omega
              case rel => exact ⟨(wrap64 (x9_1 + 1)), (by first | rfl | (simp; done) | (simp [*]; done) | (rw [Int.tmod_eq_emod_of_nonneg (Int.natCast_nonneg _)]; done)), H', ⟨by have := HK1.out; omega⟩, by repeat (first | exact Drawn0.refl _ | apply Drawn0.step)⟩
            · replace c7 := Bool.eq_false_iff.mpr c7
              subst c7
              have H1 : (some false) = some r := by rw [if_neg (show ¬ (false = true) by decide)] at H; exact H
              clear H
              have H := H1
              clear H1
              obtain rfl := Option.some.inj H
              have aa : 0 ≤ (x9_1 : Int) := of_decide_eq_true (by first | (with_reducible assumption) | assumption)
              have q102 : x9_1 < (l0.length : Int) := of_decide_eq_true (by first | (with_reducible assumption) | assumption)
              obtain ⟨ad102, e102, ab⟩ := Kd.at_int HR0.out x9_1 aa q102
              cases e102
              replace aa := eq_true aa
              replace q102 := eq_true q102
              go_wp2_with (first | ((with_reducible refine gate_callee (f := 52) rfl ?_); refine goesL_ (some 16) rfl rfl Try.func52 (by kernel_rfl) rfl #[.int .i64 (rd l0 x9_1), .int .i64 0, .int .i64 (wrap64 (a1 - 1))] rfl (by (try simp only [List.map_toArray, List.map_cons, List.map_nil]); first | done | rfl | (simp only [List.length_drop, List.length_take]; rfl)) ?_; (with_reducible refine (impl_inRange.calls (rd l0 x9_1) 0 (wrap64 (a1 - 1)) false _ A6.out).mono ?_); rintro e w' ⟨rfl, ⟨nd, rfl⟩⟩; refine ⟨_, rfl, ?_⟩))
              go_ret
              exact ⟨by first | rfl | (simp; done) | (simp [*]; done), by repeat (first | exact Drawn0.refl _ | apply Drawn0.step)⟩
          · rw [if_neg c5] at H
            exact absurd H (by simp)
        · rw [if_neg c4] at H
          exact absurd H (by simp)
      · rw [if_neg c3] at H
        have ae : decide (x9_1 < (l0.length : Int)) = false := decide_eq_false c3
        clear c3
        obtain rfl := Option.some.inj H
        go_wp2
        go_ret
        exact ⟨by first | rfl | (simp; done) | (simp [*]; done), by repeat (first | exact Drawn0.refl _ | apply Drawn0.step)⟩


/-! ### impl_WordOk: function 18 -/
def impl_WordOk.j0 : Nat → Int → Bool → List Int → List Int → Option (Bool)
 | 0, _, _, _, _ => none
 | k + 1, x1, x20, x105000, x105001 => if x20 = true then (some false) else ((impl_areLetters.f k x105000 x1).bind fun t107 => (if t107 = true then ((impl_areLetters.f k x105001 x1).bind fun t108 => (some t108)) else (some false)))
def impl_WordOk.f (k : Nat) (l0_0 : List Int) (l0_1 : List Int) (a1 : Int) : Option (Bool) := (impl_isLetters.f a1).bind fun t105 => (if t105 = true then (if (l0_0.length : Int) > 40 then (impl_WordOk.j0 k a1 true l0_0 l0_1) else ((impl_inRange.f (l0_1.length : Int) 1 40).bind fun t106 => (impl_WordOk.j0 k a1 (!t106) l0_0 l0_1))) else (impl_WordOk.j0 k a1 true l0_0 l0_1))
theorem impl_WordOk.mono_l : ∀ k, (∀ y0 y1 y2 y3, LeO (impl_WordOk.j0 k y0 y1 y2 y3) (impl_WordOk.j0 (k + 1) y0 y1 y2 y3))
 | 0 => fun _ _ _ _ r h => by simp [impl_WordOk.j0] at h
 | k + 1 => by
  have ih0 := impl_WordOk.mono_l k
  ·intro y0 y1 y2 y3
   unfold impl_WordOk.j0
   repeat' first
   | (with_reducible exact ih0 _ _ _ _)
   | (with_reducible exact impl_areLetters.mono _ _ _)
   | (with_reducible exact LeO.refl _)
   | (with_reducible exact LeO.none _)
   | (with_reducible refine LeO.ite ?_ ?_)
   | (with_reducible refine LeO.bind ?_ (fun _ => ?_))
   | exact ih0 _ _ _ _
   | exact impl_areLetters.mono _ _ _
   | exact LeO.none _
   | refine LeO.ite ?_ ?_
   | refine LeO.bind ?_ (fun _ => ?_)
theorem impl_WordOk.mono : ∀ a0 a1 a2 k, LeO (impl_WordOk.f k a0 a1 a2) (impl_WordOk.f (k + 1) a0 a1 a2) := by
 intro a0 a1 a2 k
 have ih0 := impl_WordOk.mono_l k
 unfold impl_WordOk.f
 repeat' first
   | (with_reducible exact ih0 _ _ _ _)
   | (with_reducible exact impl_areLetters.mono _ _ _)
   | (with_reducible exact LeO.refl _)
   | (with_reducible exact LeO.none _)
   | (with_reducible refine LeO.ite ?_ ?_)
   | (with_reducible refine LeO.bind ?_ (fun _ => ?_))
   | exact ih0 _ _ _ _
   | exact impl_areLetters.mono _ _ _
   | exact LeO.none _
   | refine LeO.ite ?_ ?_
   | refine LeO.bind ?_ (fun _ => ?_)
open Go.Proofs.Ythkljpbddddhdaa.Short2 in
set_option maxHeartbeats 8000000 in
set_option maxRecDepth 100000 in
theorem impl_WordOk.calls (k : Nat) (A0_0 : Option Addr) (c0_0 : Nat) (l0_0 : List Int) (A0_1 : Option Addr) (c0_1 : Nat) (l0_1 : List Int) (a1 : Int) (r : Bool) (w : World) (hr0_0 : Kd.C (Kd.int .i64) w A0_0 l0_0.length l0_0) (hc0_0 : l0_0.length ≤ c0_0) (hr0_1 : Kd.C (Kd.int .i64) w A0_1 l0_1.length l0_1) (hc0_1 : l0_1.length ≤ c0_1) (h : impl_WordOk.f k l0_0 l0_1 a1 = some r) :
  Calls Try.prog 18 #[.agg #[.slice A0_0 l0_0.length c0_0, .slice A0_1 l0_1.length c0_1], .int .i64 a1] w fun e w' => e = .returned (.bool r) ∧ Below w.heap.size w w' := by
 have hu27 := Try.underlying27; have HR0_0 := Aside0.mk hr0_0; have HC0_0 := Aside0.mk hc0_0; clear hr0_0 hc0_0; have HR0_1 := Aside0.mk hr0_1; have HC0_1 := Aside0.mk hc0_1; clear hr0_1 hc0_1; have HB := Aside0.mk (Below.refl w.heap.size w); have H : ((impl_isLetters.f a1).bind fun ag => (if ag = true then (if (l0_0.length : Int) > 40 then (impl_WordOk.j0 k a1 true l0_0 l0_1) else ((impl_inRange.f (l0_1.length : Int) 1 40).bind fun ac => (impl_WordOk.j0 k a1 (!ac) l0_0 l0_1))) else (impl_WordOk.j0 k a1 true l0_0 l0_1))) = some r := h; clear h; have HC3 := Aside0.mk H; clear H
 go_enter Try.func18, Try.ntmps18
 go_upto_region 1 with (first | ((with_reducible refine gate_dst (N := 2) rfl ?_); (try (refine gate_guard (by rfl) ?_; dsimp only)); refine box_event ?hg (N := 2) ?hd (cs := #[.slice A0_0 l0_0.length c0_0, .slice A0_1 l0_1.length c0_1]) (t := 27) ?hr ?_; (case hd => rfl); (case hg => rfl); (case hr => first | (go_simp; done) | (go_simp; rfl)); intro ab hg w4 hbox hb; have aa := Aside0.mk (hbox); have aL := xG HB hg; have ah := xG HB hg; replace HB := xS HB hb; clear hb hbox hg))
 (try simp only [Act.put, q3])
 go_cut [20] (fun aJ wc => ∃ (kq : Nat) (af : Bool), aJ = .bool af ∧ Aside0 (impl_WordOk.j0 kq a1 af l0_0 l0_1 = some r) ∧ Aside0 (kq ≤ k) ∧ Aside0 (wc.heap[ab]? = some (.cells #[(.slice A0_0 l0_0.length c0_0), (.slice A0_1 l0_1.length c0_1)] 27 (0, 0))) ∧ Aside0 (Below w.heap.size w wc))
 case first =>
  have H := HC3.out; clear HC3; replace H := Option.bind_eq_some_iff.mp H; obtain ⟨ag, ay, H⟩ := H; replace H : (if ag = true then (if (l0_0.length : Int) > 40 then (impl_WordOk.j0 k a1 true l0_0 l0_1) else ((impl_inRange.f (l0_1.length : Int) 1 40).bind fun ac => (impl_WordOk.j0 k a1 (!ac) l0_0 l0_1))) else (impl_WordOk.j0 k a1 true l0_0 l0_1)) = some r := H; have A5 := Aside0.mk ay; clear ay
  by_cases c6 : ag = true
  ·subst c6
   have H1 : (if (l0_0.length : Int) > 40 then (impl_WordOk.j0 k a1 true l0_0 l0_1) else ((impl_inRange.f (l0_1.length : Int) 1 40).bind fun ac => (impl_WordOk.j0 k a1 (!ac) l0_0 l0_1))) = some r := by rw [if_pos rfl] at H; exact H
   clear H; have H := H1; clear H1
   by_cases c7 : (l0_0.length : Int) > 40
   ·rw [if_pos c7] at H; have ae : decide (40 < (l0_0.length : Int)) = true := decide_eq_true c7; have ap : decide (40 < l0_0.length) = true := decide_eq_true (by omega); clear c7
    (first | rw [ae] | (simp only [i64_w, i32_w]; rw [ae]) | skip)
    have H' := Aside0.mk H; clear H
    go_wp2_with (first | ((with_reducible refine gate_callee (f := 51) rfl ?_); refine goesL_ (some 6) rfl rfl Try.func51 (by kernel_rfl) rfl #[.int .i64 a1] rfl (by (try simp only [m3]); first | done | rfl | (simp only [d2]; rfl)) ?_; (with_reducible refine (impl_isLetters.calls a1 true _ A5.out).mono ?_); rintro e w' ⟨rfl, ⟨nd, rfl⟩⟩; refine ⟨_, rfl, ?_⟩; have aq : w4.cell? ⟨ab, 0, none⟩ = some (.slice A0_0 l0_0.length c0_0) := b1 aa 0; have ar : w4.cell? ⟨ab, 1, none⟩ = some (.slice A0_1 l0_1.length c0_1) := b1 aa 1; have au := blk_frozen aa.out 0; have av := blk_frozen aa.out 1))
    go_meet
    case rel => exact ⟨_, (true), (by first | rfl | (simp; done) | (simp [*]; done) | (rw [Int.tmod_eq_emod_of_nonneg (Int.natCast_nonneg _)]; done)), H', ⟨by first | omega | exact Nat.le_refl _⟩, ⟨zB aa.out⟩, ⟨zS HB.out⟩⟩
   ·rw [if_neg c7] at H; have ae : decide (40 < (l0_0.length : Int)) = false := decide_eq_false c7; have ap : decide (40 < l0_0.length) = false := decide_eq_false (by omega); clear c7
    (first | rw [ae] | (simp only [i64_w, i32_w]; rw [ae]) | skip)
    replace H := Option.bind_eq_some_iff.mp H; obtain ⟨ac, az, H⟩ := H; replace H : (impl_WordOk.j0 k a1 (!ac) l0_0 l0_1) = some r := H; have A9 := Aside0.mk az; clear az; have H' := Aside0.mk H; clear H
    go_wp2_with (first | ((with_reducible refine gate_callee (f := 51) rfl ?_); refine goesL_ (some 6) rfl rfl Try.func51 (by kernel_rfl) rfl #[.int .i64 a1] rfl (by (try simp only [m3]); first | done | rfl | (simp only [d2]; rfl)) ?_; (with_reducible refine (impl_isLetters.calls a1 true _ A5.out).mono ?_); rintro e w' ⟨rfl, ⟨nd, rfl⟩⟩; refine ⟨_, rfl, ?_⟩; have al : w4.cell? ⟨ab, 0, none⟩ = some (.slice A0_0 l0_0.length c0_0) := b1 aa 0; have am : w4.cell? ⟨ab, 1, none⟩ = some (.slice A0_1 l0_1.length c0_1) := b1 aa 1; have an := blk_frozen aa.out 0; have ao := blk_frozen aa.out 1) | (go_at_call 52; (with_reducible refine (impl_inRange.calls (l0_1.length : Int) 1 40 ac _ A9.out).mono ?_); rintro e w' ⟨rfl, ⟨nd, rfl⟩⟩))
    go_meet
    case rel => exact ⟨_, (!ac), (by first | rfl | (simp; done) | (simp [*]; done) | (rw [Int.tmod_eq_emod_of_nonneg (Int.natCast_nonneg _)]; done)), H', ⟨by first | omega | exact Nat.le_refl _⟩, ⟨zB aa.out⟩, ⟨zS HB.out⟩⟩
  ·replace c6 := Bool.eq_false_iff.mpr c6; subst c6
   have H1 : (impl_WordOk.j0 k a1 true l0_0 l0_1) = some r := by rw [if_neg (show ¬ (false = true) by decide)] at H; exact H
   clear H; have H := H1; clear H1; have H' := Aside0.mk H; clear H
   go_wp2_with (first | ((with_reducible refine gate_callee (f := 51) rfl ?_); refine goesL_ (some 6) rfl rfl Try.func51 (by kernel_rfl) rfl #[.int .i64 a1] rfl (by (try simp only [m3]); first | done | rfl | (simp only [d2]; rfl)) ?_; (with_reducible refine (impl_isLetters.calls a1 false _ A5.out).mono ?_); rintro e w' ⟨rfl, ⟨nd, rfl⟩⟩; refine ⟨_, rfl, ?_⟩))
   go_meet
   case rel => exact ⟨_, (true), (by first | rfl | (simp; done) | (simp [*]; done) | (rw [Int.tmod_eq_emod_of_nonneg (Int.natCast_nonneg _)]; done)), H', ⟨by first | omega | exact Nat.le_refl _⟩, ⟨zB aa.out⟩, ⟨zS HB.out⟩⟩
 case rest =>
  clear HC3
  try clear c1
  try clear p2
  try clear c5
  try clear c6
  try clear c7
  try clear ae
  try clear ap
  try clear al
  try clear am
  try clear aq
  try clear ar
  try clear an
  try clear ao
  try clear au
  try clear av
  obtain ⟨kq, af, rfl, HA, HJ2, aa, HB⟩ := hcut
  cases kq with
  | zero => exact absurd HA.out (by simp [impl_WordOk.j0])
  | succ kj2 =>
   have H := HA.out; clear HA; simp only [impl_WordOk.j0] at H
   by_cases aj : af = true
   ·subst aj
    have H1 : (some false) = some r := by rw [if_pos rfl] at H; exact H
    clear H; have H := H1; clear H1; obtain rfl := Option.some.inj H
    go_wp2
    go_ret; exact ⟨by first | rfl | (simp [errW_none, errW_some] <;> rfl) | (simp [*, errW_none, errW_some] <;> rfl), by repeat (first | (with_reducible first | exact HB.out | apply below_alloc | apply pw_below_drewN | apply below_drew1 | refine below_set ?_ ah.out) | exact HB.out)⟩
   ·replace aj := Bool.eq_false_iff.mpr aj; subst aj
    have H1 : ((impl_areLetters.f kj2 l0_0 a1).bind fun ai => (if ai = true then ((impl_areLetters.f kj2 l0_1 a1).bind fun ad => (some ad)) else (some false))) = some r := by rw [if_neg (show ¬ (false = true) by decide)] at H; exact H
    clear H; have H := H1; clear H1; replace H := Option.bind_eq_some_iff.mp H; obtain ⟨ai, aw, H⟩ := H; replace H : (if ai = true then ((impl_areLetters.f kj2 l0_1 a1).bind fun ad => (some ad)) else (some false)) = some r := H; have aA := Aside0.mk aw; clear aw
    by_cases ak : ai = true
    ·subst ak
     have H1 : ((impl_areLetters.f kj2 l0_1 a1).bind fun ad => (some ad)) = some r := by rw [if_pos rfl] at H; exact H
     clear H; have H := H1; clear H1; replace H := Option.bind_eq_some_iff.mp H; obtain ⟨ad, ax, H⟩ := H; replace H : (some ad) = some r := H; have aK := Aside0.mk ax; clear ax; obtain rfl := Option.some.inj H; have aB : wc.cell? ⟨ab, 0, none⟩ = some (.slice A0_0 l0_0.length c0_0) := b1 aa 0; have aC : wc.cell? ⟨ab, 1, none⟩ = some (.slice A0_1 l0_1.length c0_1) := b1 aa 1; have aD := blk_frozen aa.out 0; have aE := blk_frozen aa.out 1
     go_wp2_with (first | ((with_reducible refine gate_callee (f := 53) rfl ?_); refine goesL_ (some 24) rfl rfl Try.func53 (by kernel_rfl) rfl #[.slice A0_0 l0_0.length c0_0, .int .i64 a1] rfl (by (try simp only [m3]); first | done | rfl | (simp only [d2]; rfl)) ?_; (with_reducible refine (impl_areLetters.calls kj2 _ _ l0_0 a1 true _ ?side1 ?side2 aA.out).mono ?_); (case side1 => exact zC (Kd.C_below HR0_0.out HB.out)); (case side2 => exact HC0_0.out); rintro e w' ⟨rfl, ⟨nd, rfl⟩⟩; refine ⟨_, rfl, ?_⟩) | (go_at_call 53; (with_reducible refine (impl_areLetters.calls kj2 _ _ l0_1 a1 ad _ ?side1 ?side2 aK.out).mono ?_); (case side1 => repeat (first | exact (Kd.C_below HR0_1.out (zS HB.out)) | (with_reducible refine Kd.C_alloc ?_ _) | (with_reducible refine Kd.C_drewN ?_ _) | (with_reducible refine Kd.C_drew ?_))); (case side2 => exact HC0_1.out); rintro e w' ⟨rfl, ⟨nd, rfl⟩⟩))
     go_ret; exact ⟨by first | rfl | (simp [errW_none, errW_some] <;> rfl) | (simp [*, errW_none, errW_some] <;> rfl), by repeat (first | (with_reducible first | exact HB.out | apply below_alloc | apply pw_below_drewN | apply below_drew1 | refine below_set ?_ ah.out) | exact HB.out)⟩
    ·replace ak := Bool.eq_false_iff.mpr ak; subst ak
     have H1 : (some false) = some r := by rw [if_neg (show ¬ (false = true) by decide)] at H; exact H
     clear H; have H := H1; clear H1; obtain rfl := Option.some.inj H; have aF : wc.cell? ⟨ab, 0, none⟩ = some (.slice A0_0 l0_0.length c0_0) := b1 aa 0; have aG : wc.cell? ⟨ab, 1, none⟩ = some (.slice A0_1 l0_1.length c0_1) := b1 aa 1; have aH := blk_frozen aa.out 0; have aI := blk_frozen aa.out 1
     go_wp2_with (first | ((with_reducible refine gate_callee (f := 53) rfl ?_); refine goesL_ (some 24) rfl rfl Try.func53 (by kernel_rfl) rfl #[.slice A0_0 l0_0.length c0_0, .int .i64 a1] rfl (by (try simp only [m3]); first | done | rfl | (simp only [d2]; rfl)) ?_; (with_reducible refine (impl_areLetters.calls kj2 _ _ l0_0 a1 false _ ?side1 ?side2 aA.out).mono ?_); (case side1 => exact zC (Kd.C_below HR0_0.out HB.out)); (case side2 => exact HC0_0.out); rintro e w' ⟨rfl, ⟨nd, rfl⟩⟩; refine ⟨_, rfl, ?_⟩))
     go_ret; exact ⟨by first | rfl | (simp [errW_none, errW_some] <;> rfl) | (simp [*, errW_none, errW_some] <;> rfl), by repeat (first | (with_reducible first | exact HB.out | apply below_alloc | apply pw_below_drewN | apply below_drew1 | refine below_set ?_ ah.out) | exact HB.out)⟩

/-! ### impl_isRight: function 56 -/
def impl_isRight.f (k : Nat) (l0_0 : List Int) (l0_1 : List Int) : Option (Bool) := (impl_WordOk.f k l0_0 l0_1 8).bind fun t110 => (some t110)
theorem impl_isRight.mono : ∀ a0 a1 k, LeO (impl_isRight.f k a0 a1) (impl_isRight.f (k + 1) a0 a1) := by
  intro a0 a1 k
  unfold impl_isRight.f
  repeat' first
      | (with_reducible exact impl_WordOk.mono _ _ _ _)
      | (with_reducible exact LeO.refl _)
      | (with_reducible exact LeO.none _)
      | (with_reducible refine LeO.ite ?_ ?_)
      | (with_reducible refine LeO.bind ?_ (fun _ => ?_))
      | exact impl_WordOk.mono _ _ _ _
      | exact LeO.none _
      | refine LeO.ite ?_ ?_
      | refine LeO.bind ?_ (fun _ => ?_)
set_option maxHeartbeats 8000000 in
set_option maxRecDepth 100000 in
theorem impl_isRight.calls (k : Nat) (A0_0 : Option Addr) (c0_0 : Nat) (l0_0 : List Int) (A0_1 : Option Addr) (c0_1 : Nat) (l0_1 : List Int) (r : Bool) (w : World) (hr0_0 : Kd.C (Kd.int .i64) w A0_0 l0_0.length l0_0) (hc0_0 : l0_0.length ≤ c0_0) (hr0_1 : Kd.C (Kd.int .i64) w A0_1 l0_1.length l0_1) (hc0_1 : l0_1.length ≤ c0_1) (h : impl_isRight.f k l0_0 l0_1 = some r) :
    Calls Try.prog 56 #[.agg #[.slice A0_0 l0_0.length c0_0, .slice A0_1 l0_1.length c0_1]] w fun e w' => e = .returned (.bool r) ∧ Below w.heap.size w w' := by
  have hu27 := Try.underlying27
  have HR0_0 := Aside0.mk hr0_0
  have HC0_0 := Aside0.mk hc0_0
  clear hr0_0 hc0_0
  have HR0_1 := Aside0.mk hr0_1
  have HC0_1 := Aside0.mk hc0_1
  clear hr0_1 hc0_1
  have HB := Aside0.mk (Below.refl w.heap.size w)
  have H : ((impl_WordOk.f k l0_0 l0_1 8).bind fun ac => (some ac)) = some r := h
  clear h
  replace H := Option.bind_eq_some_iff.mp H
  obtain ⟨ac, ag, H⟩ := H
  replace H : (some ac) = some r := H
  have A2 := Aside0.mk ag
  clear ag
  obtain rfl := Option.some.inj H
  go_enter Try.func56, Try.ntmps56
  go_wp2_with (first | ((with_reducible refine gate_dst (N := 1) rfl ?_); refine box_event ?hg (N := 1) ?hd (cs := #[.slice A0_0 l0_0.length c0_0, .slice A0_1 l0_1.length c0_1]) (t := 27) ?hr ?_; (case hd => rfl); (case hg => rfl); (case hr => first | (go_simp; done) | (go_simp; rfl)); intro ab hg w3 hbox hb; have ad := Aside0.mk (below_step (by repeat (first | (with_reducible first | exact HB.out | apply below_alloc | apply pw_below_drewN | apply below_drew1) | exact HB.out)) hb); have ae := Aside0.mk (hbox); have ah := Aside0.mk ((by rw [hg]; exact (below_size (by repeat (first | (with_reducible first | exact HB.out | apply below_alloc | apply pw_below_drewN | apply below_drew1) | exact HB.out))) : w.heap.size ≤ ab)); have ai := Aside0.mk ((by rw [hg]; exact (below_size (by repeat (first | (with_reducible first | exact HB.out | apply below_alloc | apply pw_below_drewN | apply below_drew1) | exact HB.out))) : w.heap.size ≤ ab)); clear HB; have HB := ad; have aa := ae; have an := ah; have af := ai; clear ad ae ah ai; clear hb hbox hg; have aj : w3.cell? ⟨ab, 0, none⟩ = some (.slice A0_0 l0_0.length c0_0) := (blk_cell aa.out 0).trans rfl; have ak : w3.cell? ⟨ab, 1, none⟩ = some (.slice A0_1 l0_1.length c0_1) := (blk_cell aa.out 1).trans rfl; have al := blk_frozen aa.out 0; have am := blk_frozen aa.out 1) | ((with_reducible refine gate_callee (f := 18) rfl ?_); refine goesL_ (some 4) rfl rfl Try.func18 (by kernel_rfl) rfl #[.agg #[.slice A0_0 l0_0.length c0_0, .slice A0_1 l0_1.length c0_1], .int .i64 8] rfl (by (try simp only [List.map_toArray, List.map_cons, List.map_nil]); first | done | rfl | (simp only [List.length_drop, List.length_take]; rfl)) ?_; (with_reducible refine (impl_WordOk.calls k _ _ l0_0 _ _ l0_1 8 ac _ ?side1 ?side2 ?side3 ?side4 A2.out).mono ?_); (case side1 => repeat (first | exact (Kd.C_below HR0_0.out HB.out) | (with_reducible refine Kd.C_alloc ?_ _) | (with_reducible refine Kd.C_drewN ?_ _) | (with_reducible refine Kd.C_drew ?_))); (case side2 => exact HC0_0.out); (case side3 => repeat (first | exact (Kd.C_below HR0_1.out HB.out) | (with_reducible refine Kd.C_alloc ?_ _) | (with_reducible refine Kd.C_drewN ?_ _) | (with_reducible refine Kd.C_drew ?_))); (case side4 => exact HC0_1.out); rintro e w5 ⟨rfl, hb⟩; refine ⟨_, rfl, ?_⟩; have ad := Aside0.mk (blk_below (g := ab) (o := .cells #[.slice A0_0 l0_0.length c0_0, .slice A0_1 l0_1.length c0_1] 27 (0, 0)) (by (with_reducible repeat (first | refine blk_drewN ?_ _ | refine blk_drew ?_ | refine blk_alloc ?_ _)); exact aa.out) hb); have ae := Aside0.mk (below_step (by repeat (first | (with_reducible first | exact HB.out | apply below_alloc | apply pw_below_drewN | apply below_drew1 | refine below_set ?_ af.out) | exact HB.out)) hb); clear aa; clear HB; have aa := ad; have HB := ae; clear ad ae; (try clear hb); (try clear hb2); (try clear hk); (try clear hi)))
  go_ret
  exact ⟨by first | rfl | (simp [errW_none, errW_some] <;> rfl) | (simp [*, errW_none, errW_some] <;> rfl), by repeat (first | (with_reducible first | exact HB.out | apply below_alloc | apply pw_below_drewN | apply below_drew1 | refine below_set ?_ af.out) | exact HB.out)⟩


/-- A state of type 27 at block g of W; what its slices lead to came in by w0. -/
def IsS27 (w0 W : World) (g : Nat) (f0 : List Int) (f1 : List Int) : Prop := ∃ A0 c0, ∃ A1 c1, W.heap[g]? = some (.cells #[.slice A0 f0.length c0, .slice A1 f1.length c1] 27 (0, 0)) ∧ w0.heap.size ≤ g ∧ Kd.C (Kd.int .i64) w0 A0 f0.length f0 ∧ Kd.C (Kd.int .i64) w0 A1 f1.length f1
theorem IsS27.grown {w0 W : World} {g : Nat} {f0 : List Int} {f1 : List Int} {W1 : World} {row : Option Nat} (h : IsS27 w0 W g f0 f1) (hw : W.grownBy W1 row) (hne : some g ≠ row) : IsS27 w0 W1 g f0 f1 := by
 obtain ⟨A0, c0, A1, c1, hb, hg, hr0, hr1⟩ := h
 exact ⟨A0, c0, A1, c1, blk_grown hb hw hne, hg, hr0, hr1⟩
theorem IsS27.own_neN {w0 W : World} {g : Nat} {f0 : List Int} {f1 : List Int} {α : Type} {d : Kd α} {e : Nat} {base : Nat} {ok : Nat → Prop} {v : Value} {xs : List α} (h : IsS27 w0 W g f0 f1) (ho : Kd.N d e W base ok v xs) (ht : e ≠ 27) : some g ≠ v.ownBlock := by
 obtain ⟨A0, c0, A1, c1, hb, hg, hr0, hr1⟩ := h
 exact Kd.N_ne ho hb ht
theorem IsS27.fresh {w0 W : World} {g : Nat} {f0 : List Int} {f1 : List Int} (h : IsS27 w0 W g f0 f1) : ∀ k, W.heap.size ≤ k → k ≠ g := by
 obtain ⟨A0, c0, A1, c1, hb, hg, hr0, hr1⟩ := h
 exact Kd.freshB hb
theorem IsS27.kept {w0 W : World} {g : Nat} {f0 : List Int} {f1 : List Int} {W1 : World} {S : Nat → Prop} (h : IsS27 w0 W g f0 f1) (hk : Kept W W1 S) (hne : ¬ S g) : IsS27 w0 W1 g f0 f1 := by
 obtain ⟨A0, c0, A1, c1, hb, hg, hr0, hr1⟩ := h
 exact ⟨A0, c0, A1, c1, blk_kept hb hk hne, hg, hr0, hr1⟩
theorem IsS27.below {w0 W : World} {g : Nat} {f0 : List Int} {f1 : List Int} {W1 : World} (h : IsS27 w0 W g f0 f1) (hw : Below W.heap.size W W1) : IsS27 w0 W1 g f0 f1 := h.grown (grown_of_below hw none) (by simp)
theorem IsS27.alloc {w0 W : World} {g : Nat} {f0 : List Int} {f1 : List Int} (h : IsS27 w0 W g f0 f1) (o : Obj) : IsS27 w0 (W.alloc o) g f0 f1 := h.below (below_alloc (Below.refl _ _) o)
theorem IsS27.drewN {w0 W : World} {g : Nat} {f0 : List Int} {f1 : List Int} (h : IsS27 w0 W g f0 f1) (m : Nat) : IsS27 w0 (W.drewN m) g f0 f1 := h
theorem IsS27.drew {w0 W : World} {g : Nat} {f0 : List Int} {f1 : List Int} (h : IsS27 w0 W g f0 f1) : IsS27 w0 W.drew g f0 f1 := h
theorem IsS27.at_ {w0 W : World} {g : Nat} {f0 : List Int} {f1 : List Int} {w' : World} {m : Nat} (hq : W.drewN m = w') (h : IsS27 w0 W g f0 f1) : IsS27 w0 w' g f0 f1 := by subst hq; exact IsS27.drewN h m
theorem IsS27.apart {w0 W : World} {g : Nat} {f0 : List Int} {f1 : List Int} {α : Type} {d : Kd α} {e : Nat} {base : Nat} {ok : Nat → Prop} {v : Value} {xs : List α} (h : IsS27 w0 W g f0 f1) (ho : d.R e W base ok v xs) (ht : ∀ q, q ∈ e :: d.E → q ≠ 27) : d.R e W base (fun k => ok k ∧ k ≠ g) v xs := by
 obtain ⟨A0, c0, A1, c1, hb, hg, hr0, hr1⟩ := h
 exact Kd.R_types ho hb ht
theorem IsS27.own_ne {w0 W : World} {g : Nat} {f0 : List Int} {f1 : List Int} {α : Type} {d : Kd α} {e : Nat} {base : Nat} {ok : Nat → Prop} {v : Value} {xs : List α} (h : IsS27 w0 W g f0 f1) (ho : d.R e W base ok v xs) (ht : e ≠ 27) : some g ≠ v.ownBlock := by
 obtain ⟨A0, c0, A1, c1, hb, hg, hr0, hr1⟩ := h
 exact Kd.R_ne ho hb ht
theorem IsS27.apartQ {w0 W : World} {g : Nat} {f0 : List Int} {f1 : List Int} {α : Type} {d : Kd α} {e : Nat} {base : Nat} {ok : Nat → Prop} {v : Value} {xs : List α} (h : IsS27 w0 W g f0 f1) (ho : d.Q e W base ok v xs) (ht : ∀ q, q ∈ e :: d.E → q ≠ 27) : d.Q e W base (fun k => ok k ∧ k ≠ g) v xs := by
 obtain ⟨A0, c0, A1, c1, hb, hg, hr0, hr1⟩ := h
 exact Kd.Q_types ho hb ht
theorem IsS27.own_neQ {w0 W : World} {g : Nat} {f0 : List Int} {f1 : List Int} {α : Type} {d : Kd α} {e : Nat} {base : Nat} {ok : Nat → Prop} {v : Value} {xs : List α} (h : IsS27 w0 W g f0 f1) (ho : d.Q e W base ok v xs) (ht : e ≠ 27) : some g ≠ v.ownBlock := by
 obtain ⟨A0, c0, A1, c1, hb, hg, hr0, hr1⟩ := h
 exact Kd.Q_ne ho hb ht
theorem IsS27.apartS {w0 W : World} {g : Nat} {f0 : List Int} {f1 : List Int} {α : Type} {d : Kd α} {e : Nat} {base : Nat} {ok : Nat → Prop} {v : Value} {xs : List α} (h : IsS27 w0 W g f0 f1) (ho : d.S e W base ok v xs) (ht : ∀ q, q ∈ e :: d.E → q ≠ 27) : d.S e W base (fun k => ok k ∧ k ≠ g) v xs := by
 obtain ⟨A0, c0, A1, c1, hb, hg, hr0, hr1⟩ := h
 exact Kd.S_types ho hb ht
theorem IsS27.own_neS {w0 W : World} {g : Nat} {f0 : List Int} {f1 : List Int} {α : Type} {d : Kd α} {e : Nat} {base : Nat} {ok : Nat → Prop} {v : Value} {xs : List α} (h : IsS27 w0 W g f0 f1) (ho : d.S e W base ok v xs) (ht : e ≠ 27) : some g ≠ v.ownBlock := by
 obtain ⟨A0, c0, A1, c1, hb, hg, hr0, hr1⟩ := h
 exact Kd.S_ne ho hb ht
theorem IsS27.lt {w0 W : World} {g : Nat} {f0 : List Int} {f1 : List Int} (h : IsS27 w0 W g f0 f1) : g < W.heap.size := by
 obtain ⟨A0, c0, A1, c1, hb, hg, hr0, hr1⟩ := h
 exact blk_lt hb
theorem IsS27.ge {w0 W : World} {g : Nat} {f0 : List Int} {f1 : List Int} (h : IsS27 w0 W g f0 f1) : w0.heap.size ≤ g := by
 obtain ⟨A0, c0, A1, c1, hb, hg, hr0, hr1⟩ := h
 exact hg
theorem IsS27.ne_blk {w0 W : World} {g : Nat} {f0 : List Int} {f1 : List Int} {a : Nat} {cs : Array Value} {t : TypeId} {fr : Nat × Nat} (h : IsS27 w0 W g f0 f1) (hb2 : W.heap[a]? = some (.cells cs t fr)) (ht : t ≠ 27) : g ≠ a := by
 obtain ⟨A0, c0, A1, c1, hb, hg, hr0, hr1⟩ := h
 rintro rfl
 rw [hb] at hb2
 injection hb2 with hb2
 injection hb2 with _ ht2
 exact ht ht2.symm
theorem IsS27.far {w0 W : World} {g : Nat} {f0 : List Int} {f1 : List Int} {p : Addr} (h : IsS27 w0 W g f0 f1) (hne : g ≠ p.block) (u : Value) : IsS27 w0 (W.setCell p u) g f0 f1 := by
 obtain ⟨A0, c0, A1, c1, hb, hg, hr0, hr1⟩ := h
 exact ⟨A0, c0, A1, c1, blk_far hb hne u, hg, hr0, hr1⟩
theorem cellS27_0 {W : World} {g : Nat} {A0 : Option Addr} {c0 : Nat} {A1 : Option Addr} {c1 : Nat} {f0 : List Int} {f1 : List Int} (h : W.heap[g]? = some (.cells #[.slice A0 f0.length c0, .slice A1 f1.length c1] 27 (0, 0))) : W.cell? ⟨g, 0, none⟩ = some (.slice A0 f0.length c0) := (blk_cell h 0).trans rfl
theorem cellS27_1 {W : World} {g : Nat} {A0 : Option Addr} {c0 : Nat} {A1 : Option Addr} {c1 : Nat} {f0 : List Int} {f1 : List Int} (h : W.heap[g]? = some (.cells #[.slice A0 f0.length c0, .slice A1 f1.length c1] 27 (0, 0))) : W.cell? ⟨g, 1, none⟩ = some (.slice A1 f1.length c1) := (blk_cell h 1).trans rfl
theorem IsS27.new (w0 W : World) (A0 : Option Addr) (c0 : Nat) (A1 : Option Addr) (c1 : Nat) (f0 : List Int) (f1 : List Int) (hB : Below w0.heap.size w0 W) (hr0 : Kd.C (Kd.int .i64) w0 A0 f0.length f0) (hr1 : Kd.C (Kd.int .i64) w0 A1 f1.length f1) : IsS27 w0 (W.alloc (.cells #[.slice A0 f0.length c0, .slice A1 f1.length c1] 27)) W.heap.size f0 f1 := ⟨A0, c0, A1, c1, by simpa using heap_alloc_new W _, hB.size, hr0, hr1⟩

/-! ### impl_Word_letter: function 57 -/
def impl_Word_letter.f (s0_0 : List Int) (s0_1 : List Int) (a1 : Int) : Option (Int) := if a1 < (s0_0.length : Int) then (if 0 ≤ a1 then (some (rd s0_0 a1)) else (none)) else (if 0 ≤ (wrap64 (a1 - (s0_0.length : Int))) then (if (wrap64 (a1 - (s0_0.length : Int))) < (s0_1.length : Int) then (some (rd s0_1 (wrap64 (a1 - (s0_0.length : Int))))) else (none)) else (none))
open Go.Proofs.Ythkljpbddddhdaa.Short2 in
set_option maxHeartbeats 8000000 in
set_option maxRecDepth 100000 in
theorem impl_Word_letter.calls (g : Nat) (s0_0 : List Int) (s0_1 : List Int) (a1 : Int) (r : Int) (w0 w : World) (hI : IsS27 w0 w g s0_0 s0_1) (hB : Below w0.heap.size w0 w) (h : impl_Word_letter.f s0_0 s0_1 a1 = some r) :
  Calls Try.prog 57 #[.pointer (some ⟨g, 0, none⟩), .int .i64 a1] w fun e w' => e = .returned (.int .i64 r) ∧ IsS27 w0 w' g s0_0 s0_1 ∧ Below w0.heap.size w0 w' ∧ KeepBut w w' g none := by
 have HI0 := Aside0.mk hI; have HK := Aside0.mk (KeepBut.refl w g none); have HL := Aside0.mk hB.size; clear hI; have HW0 := Aside0.mk hB.size; have HB := Aside0.mk hB; clear hB; have H : (if a1 < (s0_0.length : Int) then (if 0 ≤ a1 then (some (rd s0_0 a1)) else (none)) else (if 0 ≤ (wrap64 (a1 - (s0_0.length : Int))) then (if (wrap64 (a1 - (s0_0.length : Int))) < (s0_1.length : Int) then (some (rd s0_1 (wrap64 (a1 - (s0_0.length : Int))))) else (none)) else (none))) = some r := h; clear h
 by_cases c3 : a1 < (s0_0.length : Int)
 ·rw [if_pos c3] at H; have ae : decide (a1 < (s0_0.length : Int)) = true := decide_eq_true c3; clear c3
  by_cases c4 : 0 ≤ a1
  ·rw [if_pos c4] at H; have aj : decide (0 ≤ a1) = true := decide_eq_true c4; clear c4; obtain rfl := Option.some.inj H; obtain ⟨ASz5_0, cSz5_0, ASz5_1, cSz5_1, HGz5, hgz5, HSz5_0, HSz5_1⟩ := HI0.out; have af := cellS27_0 HGz5; have ag := cellS27_1 HGz5; clear HGz5 hgz5; have ad : 0 ≤ (a1 : Int) := of_decide_eq_true (by first | (with_reducible assumption) | assumption); have q111 : a1 < (s0_0.length : Int) := of_decide_eq_true (by first | (with_reducible assumption) | assumption); obtain ⟨ad111, e111, aa⟩ := Kd.at_int HSz5_0 a1 ad q111
   cases e111
   replace aa := pw_cell_below HB.out aa; replace ad := eq_true ad; replace q111 := eq_true q111
   go_enter Try.func57, Try.ntmps57
   go_wp2
   repeat (go_quiet (fail); try go_wp2)
   go_ret; exact ⟨by first | rfl | (simp [errW_none, errW_some] <;> rfl) | (simp [*, errW_none, errW_some] <;> rfl), by repeat (first | (with_reducible first | exact HI0.out | apply IsS27.alloc | apply IsS27.drewN | apply IsS27.drew) | exact HI0.out), by repeat (first | (with_reducible first | exact HB.out | apply below_alloc | apply pw_below_drewN | apply below_drew1 | refine below_set ?_ (IsS27.ge HI0.out)) | exact HB.out), by repeat (first | (with_reducible first | exact HK.out | apply KeepBut.set_ | apply keep_drewN | apply keep_drew | apply keep_alloc) | exact HK.out)⟩
  ·rw [if_neg c4] at H; exact absurd H (by simp)
 ·rw [if_neg c3] at H; have ae : decide (a1 < (s0_0.length : Int)) = false := decide_eq_false c3; clear c3; obtain ⟨ji6, hji6⟩ : ∃ j_ : Int, (wrap64 (a1 - (s0_0.length : Int))) = j_ := ⟨_, rfl⟩
  replace H : (if 0 ≤ (ji6) then (if (ji6) < (s0_1.length : Int) then (some (rd s0_1 (ji6))) else (none)) else (none)) = some r := by first | (rw [hji6] at H; exact H) | (simp only [hji6] at H ⊢; exact H)
  have hji6w : (IntKind.i64.wrap (a1 - (s0_0.length : Int))) = ji6 := (i64_w _).trans hji6
  by_cases c7 : 0 ≤ (ji6)
  ·rw [if_pos c7] at H; have ak : decide (0 ≤ (ji6)) = true := decide_eq_true c7; clear c7
   by_cases c8 : (ji6) < (s0_1.length : Int)
   ·rw [if_pos c8] at H; have al : decide ((ji6) < (s0_1.length : Int)) = true := decide_eq_true c8; clear c8; obtain rfl := Option.some.inj H; obtain ⟨ASz9_0, cSz9_0, ASz9_1, cSz9_1, HGz9, hgz9, HSz9_0, HSz9_1⟩ := HI0.out; have ah := cellS27_0 HGz9; have ai := cellS27_1 HGz9; clear HGz9 hgz9; have ac : 0 ≤ ((ji6) : Int) := of_decide_eq_true (by first | (with_reducible assumption) | assumption); have q112 : (ji6) < (s0_1.length : Int) := of_decide_eq_true (by first | (with_reducible assumption) | assumption); obtain ⟨ad112, e112, ab⟩ := Kd.at_int HSz9_1 (ji6) ac q112
    cases e112
    replace ab := pw_cell_below HB.out ab
    (try (obtain ⟨ad112zz5, e112zz5, hx112_0zz5⟩ := Kd.at_int HSz5_1 (ji6) ac q112; cases e112zz5; replace hx112_0zz5 := pw_cell_below HB.out hx112_0zz5))
    replace ac := eq_true ac; replace q112 := eq_true q112
    go_enter Try.func57, Try.ntmps57
    go_wp2
    repeat (go_quiet (fail); try go_wp2)
    go_ret; exact ⟨by first | rfl | (simp [errW_none, errW_some] <;> rfl) | (simp only [← hji6]; first | rfl | (simp [errW_none, errW_some] <;> rfl)) | (simp [*, errW_none, errW_some] <;> rfl), by repeat (first | (with_reducible first | exact HI0.out | apply IsS27.alloc | apply IsS27.drewN | apply IsS27.drew) | exact HI0.out), by repeat (first | (with_reducible first | exact HB.out | apply below_alloc | apply pw_below_drewN | apply below_drew1 | refine below_set ?_ (IsS27.ge HI0.out)) | exact HB.out), by repeat (first | (with_reducible first | exact HK.out | apply KeepBut.set_ | apply keep_drewN | apply keep_drew | apply keep_alloc) | exact HK.out)⟩
   ·rw [if_neg c8] at H; exact absurd H (by simp)
  ·rw [if_neg c7] at H; exact absurd H (by simp)

/-! ### impl_Word_placeOf: function 58 -/
def impl_Word_placeOf.f (s0_0 : List Int) (s0_1 : List Int) (a1 : Int) : Option (Int) := if a1 < (s0_0.length : Int) then (some a1) else (if (s0_1.length : Int) = 0 then (none) else (some (wrap64 ((s0_0.length : Int) + (Int.tmod (wrap64 (a1 - (s0_0.length : Int))) (s0_1.length : Int))))))
set_option maxHeartbeats 8000000 in
set_option maxRecDepth 100000 in
theorem impl_Word_placeOf.calls (g : Nat) (s0_0 : List Int) (s0_1 : List Int) (a1 : Int) (r : Int) (w0 w : World) (hI : IsS27 w0 w g s0_0 s0_1) (hB : Below w0.heap.size w0 w) (h : impl_Word_placeOf.f s0_0 s0_1 a1 = some r) :
    Calls Try.prog 58 #[.pointer (some ⟨g, 0, none⟩), .int .i64 a1] w fun e w' => e = .returned (.int .i64 r) ∧ IsS27 w0 w' g s0_0 s0_1 ∧ Below w0.heap.size w0 w' ∧ KeepBut w w' g none := by
  have HI0 := Aside0.mk hI
  have HK := Aside0.mk (KeepBut.refl w g none)
  have HL := Aside0.mk hB.size
  clear hI
  have HW0 := Aside0.mk hB.size
  have HB := Aside0.mk hB
  clear hB
  have H : (if a1 < (s0_0.length : Int) then (some a1) else (if (s0_1.length : Int) = 0 then (none) else (some (wrap64 ((s0_0.length : Int) + (Int.tmod (wrap64 (a1 - (s0_0.length : Int))) (s0_1.length : Int))))))) = some r := h
  clear h
  by_cases c3 : a1 < (s0_0.length : Int)
  · rw [if_pos c3] at H
    have aa : decide (a1 < (s0_0.length : Int)) = true := decide_eq_true c3
    clear c3
    obtain rfl := Option.some.inj H
    obtain ⟨ASz4_0, cSz4_0, ASz4_1, cSz4_1, HGz4, hgz4, HSz4_0, HSz4_1⟩ := HI0.out
    have ab := cellS27_0 HGz4
    have ac := cellS27_1 HGz4
    clear HGz4 hgz4
    go_enter Try.func58, Try.ntmps58
    go_wp2
    repeat (go_quiet (fail); try go_wp2)
    go_ret
    exact ⟨by first | rfl | (simp [errW_none, errW_some] <;> rfl) | (simp [*, errW_none, errW_some] <;> rfl), by repeat (first | (with_reducible first | exact HI0.out | apply IsS27.alloc | apply IsS27.drewN | apply IsS27.drew) | exact HI0.out), by repeat (first | (with_reducible first | exact HB.out | apply below_alloc | apply pw_below_drewN | apply below_drew1 | refine below_set ?_ (IsS27.ge HI0.out)) | exact HB.out), by repeat (first | (with_reducible first | exact HK.out | apply KeepBut.set_ | apply keep_drewN | apply keep_drew | apply keep_alloc) | exact HK.out)⟩
  · rw [if_neg c3] at H
    have aa : decide (a1 < (s0_0.length : Int)) = false := decide_eq_false c3
    clear c3
    by_cases c5 : (s0_1.length : Int) = 0
    · rw [if_pos c5] at H
      exact absurd H (by simp)
    · rw [if_neg c5] at H
      have af : ((s0_1.length : Int) == 0) = false := beq_eq_false_iff_ne.mpr c5
      have ag : ((s0_1.length : Int) != 0) = true := bne_iff_ne.mpr c5
      have ah : ¬ (s0_1 = []) := fun h_ => c5 (by rw [h_]; rfl)
      obtain rfl := Option.some.inj H
      obtain ⟨ASz6_0, cSz6_0, ASz6_1, cSz6_1, HGz6, hgz6, HSz6_0, HSz6_1⟩ := HI0.out
      have ad := cellS27_0 HGz6
      have ae := cellS27_1 HGz6
      clear HGz6 hgz6
      go_enter Try.func58, Try.ntmps58
      go_wp2
      repeat (go_quiet (fail); try go_wp2)
      go_ret
      exact ⟨by first | rfl | (simp [errW_none, errW_some] <;> rfl) | (simp [*, errW_none, errW_some] <;> rfl), by repeat (first | (with_reducible first | exact HI0.out | apply IsS27.alloc | apply IsS27.drewN | apply IsS27.drew) | exact HI0.out), by repeat (first | (with_reducible first | exact HB.out | apply below_alloc | apply pw_below_drewN | apply below_drew1 | refine below_set ?_ (IsS27.ge HI0.out)) | exact HB.out), by repeat (first | (with_reducible first | exact HK.out | apply KeepBut.set_ | apply keep_drewN | apply keep_drew | apply keep_alloc) | exact HK.out)⟩


/-! ### impl_WordTake: function 23 -/
mutual
def impl_WordTake.j0 : Nat → Int → Bool → List Int → List Int → Option (List Int)
 | 0, _, _, _, _ => none
 | k + 1, x1, x14, x114000, x114001 => if x14 = true then (some ([] : List Int)) else (impl_WordTake.l0 k ([] : List Int) x1 0 x114000 x114001)
def impl_WordTake.l0 : Nat → List Int → Int → Int → List Int → List Int → Option (List Int)
 | 0, _, _, _, _, _ => none
 | k + 1, x5, x15, x16, x114000, x114001 => if x16 < x15 then ((impl_Word_placeOf.f x114000 x114001 x16).bind fun t116 => ((impl_Word_letter.f x114000 x114001 t116).bind fun t117 => (if x5.length < 17592186044416 then (impl_WordTake.l0 k (x5 ++ [t117]) x15 (wrap64 (x16 + 1)) x114000 x114001) else (none)))) else (some x5)
end
def impl_WordTake.f (k : Nat) (l0_0 : List Int) (l0_1 : List Int) (a1 : Int) : Option (List Int) := (impl_inRange.f a1 0 1000).bind fun t114 => (if t114 = true then ((impl_isRight.f k l0_0 l0_1).bind fun t115 => (impl_WordTake.j0 k a1 (!t115) l0_0 l0_1)) else (impl_WordTake.j0 k a1 true l0_0 l0_1))
theorem impl_WordTake.mono_l : ∀ k, (∀ y0 y1 y2 y3, LeO (impl_WordTake.j0 k y0 y1 y2 y3) (impl_WordTake.j0 (k + 1) y0 y1 y2 y3)) ∧ (∀ y0 y1 y2 y3 y4, LeO (impl_WordTake.l0 k y0 y1 y2 y3 y4) (impl_WordTake.l0 (k + 1) y0 y1 y2 y3 y4))
 | 0 => ⟨fun _ _ _ _ r h => by simp [impl_WordTake.j0] at h, fun _ _ _ _ _ r h => by simp [impl_WordTake.l0] at h⟩
 | k + 1 => by
  obtain ⟨ih0, ih1⟩ := impl_WordTake.mono_l k
  refine ⟨?_, ?_⟩
  ·intro y0 y1 y2 y3
   unfold impl_WordTake.j0
   repeat' first
   | (with_reducible exact ih0 _ _ _ _)
   | (with_reducible exact ih1 _ _ _ _ _)
   | (with_reducible exact impl_isRight.mono _ _ _)
   | (with_reducible exact LeO.refl _)
   | (with_reducible exact LeO.none _)
   | (with_reducible refine LeO.ite ?_ ?_)
   | (with_reducible refine LeO.bind ?_ (fun _ => ?_))
   | exact ih0 _ _ _ _
   | exact ih1 _ _ _ _ _
   | exact impl_isRight.mono _ _ _
   | exact LeO.none _
   | refine LeO.ite ?_ ?_
   | refine LeO.bind ?_ (fun _ => ?_)
  ·intro y0 y1 y2 y3 y4
   unfold impl_WordTake.l0
   repeat' first
   | (with_reducible exact ih0 _ _ _ _)
   | (with_reducible exact ih1 _ _ _ _ _)
   | (with_reducible exact impl_isRight.mono _ _ _)
   | (with_reducible exact LeO.refl _)
   | (with_reducible exact LeO.none _)
   | (with_reducible refine LeO.ite ?_ ?_)
   | (with_reducible refine LeO.bind ?_ (fun _ => ?_))
   | exact ih0 _ _ _ _
   | exact ih1 _ _ _ _ _
   | exact impl_isRight.mono _ _ _
   | exact LeO.none _
   | refine LeO.ite ?_ ?_
   | refine LeO.bind ?_ (fun _ => ?_)
theorem impl_WordTake.mono : ∀ a0 a1 a2 k, LeO (impl_WordTake.f k a0 a1 a2) (impl_WordTake.f (k + 1) a0 a1 a2) := by
 intro a0 a1 a2 k
 obtain ⟨ih0, ih1⟩ := impl_WordTake.mono_l k
 unfold impl_WordTake.f
 repeat' first
   | (with_reducible exact ih0 _ _ _ _)
   | (with_reducible exact ih1 _ _ _ _ _)
   | (with_reducible exact impl_isRight.mono _ _ _)
   | (with_reducible exact LeO.refl _)
   | (with_reducible exact LeO.none _)
   | (with_reducible refine LeO.ite ?_ ?_)
   | (with_reducible refine LeO.bind ?_ (fun _ => ?_))
   | exact ih0 _ _ _ _
   | exact ih1 _ _ _ _ _
   | exact impl_isRight.mono _ _ _
   | exact LeO.none _
   | refine LeO.ite ?_ ?_
   | refine LeO.bind ?_ (fun _ => ?_)
open Go.Proofs.Ythkljpbddddhdaa.Short2 in
set_option maxHeartbeats 8000000 in
set_option maxRecDepth 100000 in
theorem impl_WordTake.calls (k : Nat) (A0_0 : Option Addr) (c0_0 : Nat) (l0_0 : List Int) (A0_1 : Option Addr) (c0_1 : Nat) (l0_1 : List Int) (a1 : Int) (r : List Int) (w : World) (hr0_0 : Kd.C (Kd.int .i64) w A0_0 l0_0.length l0_0) (hc0_0 : l0_0.length ≤ c0_0) (hr0_1 : Kd.C (Kd.int .i64) w A0_1 l0_1.length l0_1) (hc0_1 : l0_1.length ≤ c0_1) (h : impl_WordTake.f k l0_0 l0_1 a1 = some r) :
  Calls Try.prog 23 #[.agg #[.slice A0_0 l0_0.length c0_0, .slice A0_1 l0_1.length c0_1], .int .i64 a1] w fun e w' => ∃ v0_ : Value, e = .returned (v0_) ∧ Kd.R (Kd.int .i64) 3 w' w.heap.size (fun _ => True) v0_ r ∧ Below w.heap.size w w' := by
 have hu27 := Try.underlying27; have HR0_0 := Aside0.mk hr0_0; have HC0_0 := Aside0.mk hc0_0; clear hr0_0 hc0_0; have HR0_1 := Aside0.mk hr0_1; have HC0_1 := Aside0.mk hc0_1; clear hr0_1 hc0_1; have HB := Aside0.mk (Below.refl w.heap.size w); have H : ((impl_inRange.f a1 0 1000).bind fun am => (if am = true then ((impl_isRight.f k l0_0 l0_1).bind fun ae => (impl_WordTake.j0 k a1 (!ae) l0_0 l0_1)) else (impl_WordTake.j0 k a1 true l0_0 l0_1))) = some r := h; clear h; have HC3 := Aside0.mk H; clear H
 go_enter Try.func23, Try.ntmps23
 go_upto_region 1 with (first | ((with_reducible refine gate_dst (N := 2) rfl ?_); refine box_event ?hg (N := 2) ?hd (cs := #[.slice A0_0 l0_0.length c0_0, .slice A0_1 l0_1.length c0_1]) (t := 27) ?hr ?_; (case hd => rfl); (case hg => rfl); (case hr => first | (go_simp; done) | (go_simp; rfl)); intro ab hg w4 hbox hb; have ac := Aside0.mk (hbox); have az := xG HB hg; have aA := xG HB hg; replace HB := xS HB hb; clear hb hbox hg))
 (try simp only [Act.put, q3])
 go_cut [14] (fun aI wc => ∃ (kq : Nat) (ak : Bool), aI = .bool ak ∧ Aside0 (impl_WordTake.j0 kq a1 ak l0_0 l0_1 = some r) ∧ Aside0 (kq ≤ k) ∧ Aside0 (wc.heap[ab]? = some (.cells #[(.slice A0_0 l0_0.length c0_0), (.slice A0_1 l0_1.length c0_1)] 27 (0, 0))) ∧ Aside0 (Below w.heap.size w wc))
 case first =>
  have H := HC3.out; clear HC3; replace H := Option.bind_eq_some_iff.mp H; obtain ⟨am, aG, H⟩ := H; replace H : (if am = true then ((impl_isRight.f k l0_0 l0_1).bind fun ae => (impl_WordTake.j0 k a1 (!ae) l0_0 l0_1)) else (impl_WordTake.j0 k a1 true l0_0 l0_1)) = some r := H; have A5 := Aside0.mk aG; clear aG
  by_cases c6 : am = true
  ·subst c6
   have H1 : ((impl_isRight.f k l0_0 l0_1).bind fun ae => (impl_WordTake.j0 k a1 (!ae) l0_0 l0_1)) = some r := by rw [if_pos rfl] at H; exact H
   clear H; have H := H1; clear H1; replace H := Option.bind_eq_some_iff.mp H; obtain ⟨ae, aH, H⟩ := H; replace H : (impl_WordTake.j0 k a1 (!ae) l0_0 l0_1) = some r := H; have A7 := Aside0.mk aH; clear aH; have H' := Aside0.mk H; clear H
   go_wp2_with (first | ((with_reducible refine gate_callee (f := 52) rfl ?_); refine goesL_ (some 8) rfl rfl Try.func52 (by kernel_rfl) rfl #[.int .i64 a1, .int .i64 0, .int .i64 1000] rfl (by (try simp only [m3]); first | done | rfl | (simp only [d2]; rfl)) ?_; (with_reducible refine (impl_inRange.calls a1 0 1000 true _ A5.out).mono ?_); rintro e w' ⟨rfl, ⟨nd, rfl⟩⟩; refine ⟨_, rfl, ?_⟩; have ao : w4.cell? ⟨ab, 0, none⟩ = some (.slice A0_0 l0_0.length c0_0) := b1 ac 0; have ap : w4.cell? ⟨ab, 1, none⟩ = some (.slice A0_1 l0_1.length c0_1) := b1 ac 1; have aq := blk_frozen ac.out 0; have ar := blk_frozen ac.out 1) | (go_at_call 56; (with_reducible refine (impl_isRight.calls k _ _ l0_0 _ _ l0_1 ae _ ?side1 ?side2 ?side3 ?side4 A7.out).mono ?_); (case side1 => repeat (first | exact (Kd.C_below HR0_0.out (zS HB.out)) | (with_reducible refine Kd.C_alloc ?_ _) | (with_reducible refine Kd.C_drewN ?_ _) | (with_reducible refine Kd.C_drew ?_))); (case side2 => exact HC0_0.out); (case side3 => repeat (first | exact (Kd.C_below HR0_1.out (zS HB.out)) | (with_reducible refine Kd.C_alloc ?_ _) | (with_reducible refine Kd.C_drewN ?_ _) | (with_reducible refine Kd.C_drew ?_))); (case side4 => exact HC0_1.out); rintro e w9 ⟨rfl, hb⟩; replace ac := xB ac hb; replace HB := xS HB hb; (try clear hb); (try clear hb2); (try clear hk); (try clear hi)))
   go_meet
   case rel => exact ⟨_, (!ae), (by first | rfl | (simp; done) | (simp [*]; done) | (rw [Int.tmod_eq_emod_of_nonneg (Int.natCast_nonneg _)]; done)), H', ⟨by first | omega | exact Nat.le_refl _⟩, ⟨zB ac.out⟩, ⟨zS HB.out⟩⟩
  ·replace c6 := Bool.eq_false_iff.mpr c6; subst c6
   have H1 : (impl_WordTake.j0 k a1 true l0_0 l0_1) = some r := by rw [if_neg (show ¬ (false = true) by decide)] at H; exact H
   clear H; have H := H1; clear H1; have H' := Aside0.mk H; clear H
   go_wp2_with (first | ((with_reducible refine gate_callee (f := 52) rfl ?_); refine goesL_ (some 8) rfl rfl Try.func52 (by kernel_rfl) rfl #[.int .i64 a1, .int .i64 0, .int .i64 1000] rfl (by (try simp only [m3]); first | done | rfl | (simp only [d2]; rfl)) ?_; (with_reducible refine (impl_inRange.calls a1 0 1000 false _ A5.out).mono ?_); rintro e w' ⟨rfl, ⟨nd, rfl⟩⟩; refine ⟨_, rfl, ?_⟩))
   go_meet
   case rel => exact ⟨_, (true), (by first | rfl | (simp; done) | (simp [*]; done) | (rw [Int.tmod_eq_emod_of_nonneg (Int.natCast_nonneg _)]; done)), H', ⟨by first | omega | exact Nat.le_refl _⟩, ⟨zB ac.out⟩, ⟨zS HB.out⟩⟩
 case rest =>
  clear HC3
  try clear c2
  try clear p2
  try clear c5
  try clear c6
  try clear ao
  try clear ap
  try clear aq
  try clear ar
  obtain ⟨kq, ak, rfl, HA, HJ2, ac, HB⟩ := hcut
  cases kq with
  | zero => exact absurd HA.out (by simp [impl_WordTake.j0])
  | succ kj2 =>
   have H := HA.out; clear HA; simp only [impl_WordTake.j0] at H
   by_cases au : ak = true
   ·subst au
    have H1 : (some ([] : List Int)) = some r := by rw [if_pos rfl] at H; exact H
    clear H; have H := H1; clear H1; obtain rfl := Option.some.inj H
    go_wp2
    go_ret; exact ⟨_, by first | rfl | (simp [errW_none, errW_some] <;> rfl) | (simp [*, errW_none, errW_some] <;> rfl), by first | exact Kd.R_nil _ _ _ _ _ | exact Kd.N_nil _ _ _ _ _ | exact Kd.V_nil _ _ _ _ _ | exact Kd.Q_nil _ _ _ _ _ | exact Kd.S_nil _ _ _ _ _, by repeat (first | (with_reducible first | exact HB.out | apply below_alloc | apply pw_below_drewN | apply below_drew1 | refine below_set ?_ aA.out) | exact HB.out)⟩
   ·replace au := Bool.eq_false_iff.mpr au; subst au
    have H1 : (impl_WordTake.l0 kj2 ([] : List Int) a1 0 l0_0 l0_1) = some r := by rw [if_neg (show ¬ (false = true) by decide)] at H; exact H
    clear H; have H := H1; clear H1; have H' := Aside0.mk H; clear H; have HI113 := Aside0.mk (show IsS27 w wc ab l0_0 l0_1 from ⟨A0_0, c0_0, A0_1, c0_1, ac.out, az.out, HR0_0.out, HR0_1.out⟩); clear ac
    go_wp2
    go_loopg [5, 16] kj2 (fun kq v5 aJ w' => ∃ (x5_2 : List Int) (aa : Int), aJ = .int .i64 aa ∧ Aside0 (impl_WordTake.l0 kq x5_2 a1 aa l0_0 l0_1 = some r) ∧ Aside0 (kq ≤ kj2) ∧ Aside0 (Kd.R (Kd.int .i64) 3 w' w.heap.size (fun _ => True) v5 x5_2) ∧ Aside0 (IsS27 w w' ab l0_0 l0_1) ∧ Aside0 (Below w.heap.size w w'))
    case atStart => exact ⟨(([] : List Int)), (0), (by first | rfl | (simp; done) | (simp [*]; done) | (rw [Int.tmod_eq_emod_of_nonneg (Int.natCast_nonneg _)]; done)), H', ⟨Nat.le_refl _⟩, ⟨by first | exact Kd.R_nil _ _ _ _ _ | exact Kd.N_nil _ _ _ _ _ | exact Kd.V_nil _ _ _ _ _ | exact Kd.Q_nil _ _ _ _ _ | exact Kd.S_nil _ _ _ _ _⟩, ⟨by repeat (first | (with_reducible first | exact HI113.out | apply IsS27.alloc | apply IsS27.drewN | apply IsS27.drew) | exact HI113.out)⟩, ⟨by repeat (first | (with_reducible first | exact HB.out | apply below_alloc | apply pw_below_drewN | apply below_drew1 | refine below_set ?_ (IsS27.ge HI113.out)) | exact HB.out)⟩⟩
    case round =>
     clear H'
     try clear c1
     try clear c2
     try clear p2
     try clear c5
     try clear c6
     try clear au
     try clear ao
     try clear ap
     try clear aq
     try clear ar
     try clear p2
     obtain ⟨x5_2, aa, rfl, HA, HK2, ad, HI113, HB⟩ := hrel
     cases gk with
     | zero => exact absurd HA.out (by simp [impl_WordTake.l0])
     | succ k2 =>
      have H := HA.out; clear HA; simp only [impl_WordTake.l0] at H
      by_cases al : aa < a1
      ·rw [if_pos al] at H; have aC : decide (aa < a1) = true := decide_eq_true al; clear al; replace H := Option.bind_eq_some_iff.mp H; obtain ⟨an, aw, H⟩ := H; replace H : ((impl_Word_letter.f l0_0 l0_1 an).bind fun af => (if x5_2.length < 17592186044416 then (impl_WordTake.l0 k2 (x5_2 ++ [af]) a1 (wrap64 (aa + 1)) l0_0 l0_1) else (none))) = some r := H; have aK := Aside0.mk aw; clear aw; replace H := Option.bind_eq_some_iff.mp H; obtain ⟨af, ax, H⟩ := H; replace H : (if x5_2.length < 17592186044416 then (impl_WordTake.l0 k2 (x5_2 ++ [af]) a1 (wrap64 (aa + 1)) l0_0 l0_1) else (none)) = some r := H; have aM := Aside0.mk ax; clear ax
       by_cases av : x5_2.length < 17592186044416
       ·rw [if_pos av] at H; have LMc14 := Aside0.mk av; clear av; obtain ⟨ay, ag⟩ : ∃ y_ : List Int, y_ = (x5_2 ++ [af]) := ⟨_, rfl⟩
        replace H : (impl_WordTake.l0 k2 ay a1 (wrap64 (aa + 1)) l0_0 l0_1) = some r := by first | (rw [ag]; with_reducible exact H) | (have H2_ := (Option.bind_some _ _).symm.trans H; rw [ag]; with_reducible exact H2_) | (have H2_ := (Option.bind_some _ _).symm.trans H; with_reducible exact H2_) | with_reducible exact H | (rw [ag]; exact H) | exact H
        have aD := Aside0.mk ag; clear ag; have H' := Aside0.mk H; clear H
        go_wp2_with (first | ((with_reducible refine gate_callee (f := 58) rfl ?_); refine goesL_ (some 21) rfl rfl Try.func58 (by kernel_rfl) rfl #[.pointer (some ⟨ab, 0, none⟩), .int .i64 aa] rfl (by (try simp only [m3]); first | done | rfl | (simp only [d2]; rfl)) ?_; (with_reducible refine (impl_Word_placeOf.calls ab l0_0 l0_1 aa an w _ ?side1 ?side2 aK.out).mono ?_); (case side1 => repeat (first | (with_reducible first | exact HI113.out | apply IsS27.alloc | apply IsS27.drewN | apply IsS27.drew) | exact HI113.out)); (case side2 => repeat (first | (with_reducible first | exact HB.out | apply below_alloc | apply pw_below_drewN | apply below_drew1 | refine below_set ?_ (IsS27.ge HI113.out)) | exact HB.out)); rintro e aQ ⟨rfl, hi, hb, hk⟩; refine ⟨_, rfl, ?_⟩; have ah := Aside0.mk (Kd.R_mono (Kd.R_keep (IsS27.apart (show IsS27 w _ ab l0_0 l0_1 from by repeat (first | (with_reducible first | exact HI113.out | apply IsS27.alloc | apply IsS27.drewN | apply IsS27.drew) | exact HI113.out)) (zR ad.out) (by decide)) hk (fun _ h => h.2)) (fun _ h => h.1)); have ai := Aside0.mk (hb); have aj := Aside0.mk (hi); clear ad; clear HB; clear HI113; have ad := ah; have HB := ai; have HI113 := aj; clear ah ai aj; (try clear hb); (try clear hb2); (try clear hk); (try clear hi)) | ((with_reducible refine gate_callee (f := 57) rfl ?_); refine goesL_ (some 22) rfl rfl Try.func57 (by kernel_rfl) rfl #[.pointer (some ⟨ab, 0, none⟩), .int .i64 an] rfl (by (try simp only [m3]); first | done | rfl | (simp only [d2]; rfl)) ?_; (with_reducible refine (impl_Word_letter.calls ab l0_0 l0_1 an af w _ ?side1 ?side2 aM.out).mono ?_); (case side1 => repeat (first | (with_reducible first | exact HI113.out | apply IsS27.alloc | apply IsS27.drewN | apply IsS27.drew) | exact HI113.out)); (case side2 => repeat (first | (with_reducible first | exact HB.out | apply below_alloc | apply pw_below_drewN | apply below_drew1 | refine below_set ?_ (IsS27.ge HI113.out)) | exact HB.out)); rintro e aR ⟨rfl, hi, hb, hk⟩; refine ⟨_, rfl, ?_⟩; have ah := Aside0.mk (Kd.R_mono (Kd.R_keep (IsS27.apart (show IsS27 w _ ab l0_0 l0_1 from by repeat (first | (with_reducible first | exact HI113.out | apply IsS27.alloc | apply IsS27.drewN | apply IsS27.drew) | exact HI113.out)) (zR ad.out) (by decide)) hk (fun _ h => h.2)) (fun _ h => h.1)); have ai := Aside0.mk (hb); have aj := Aside0.mk (hi); clear ad; clear HB; clear HI113; have ad := ah; have HB := ai; have HI113 := aj; clear ah ai aj; (try clear hb); (try clear hb2); (try clear hk); (try clear hi)) | ((with_reducible refine gate_builtin (b := .append) (xs := #[.tmp 19, .tmp 23]) rfl ?_); at_builtin; refine Kd.R_append (Kd.int .i64) (w0 := w) w.heap.size rfl (.tmp 19) (.tmp 23) 22 3 (.int .i64 0) 8 rfl Try.underlying22 info3 rfl (by decide) (by omega) u5 x5_2 af [.int .i64 af] (fun _ => True) (fun _ => False) rfl rfl ?aP (fun _ hk => hk.elim) ?aF ?aO ?aB ?aS ?aL ?_; (case aP => exact rfl); (case aB => exact (by repeat (first | (with_reducible first | exact HB.out | apply below_alloc | apply pw_below_drewN | apply below_drew1 | refine below_set ?_ (IsS27.ge HI113.out)) | exact HB.out))); (case aF => exact (fun _ _ => trivial)); (case aO => exact (zR ad.out)); (case aS => exact (below_size (by repeat (first | (with_reducible first | exact HB.out | apply below_alloc | apply pw_below_drewN | apply below_drew1 | refine below_set ?_ (IsS27.ge HI113.out)) | exact HB.out)))); (case aL => have := LMc14.out; omega); intro aN aT ho hb hg hat; rw [← aD.out] at ho; have ah := Aside0.mk (IsS27.grown (by repeat (first | (with_reducible first | exact HI113.out | apply IsS27.alloc | apply IsS27.drewN | apply IsS27.drew) | exact HI113.out)) hg (IsS27.own_ne HI113.out ad.out (by decide))); have ai := Aside0.mk (hb); have aj := Aside0.mk (ho); clear HI113; clear HB; clear ad; have HI113 := ah; have HB := ai; have aE := aj; clear ah ai aj; clear ho hb hg hat))
        go_roundg k2
        case measure => have := HJ2.out; have := HK2.out; omega
        case rel => exact ⟨(ay), (wrap64 (aa + 1)), (by first | rfl | (simp; done) | (simp [*]; done) | (rw [Int.tmod_eq_emod_of_nonneg (Int.natCast_nonneg _)]; done)), H', ⟨by have := HJ2.out; have := HK2.out; omega⟩, ⟨zR aE.out⟩, ⟨by repeat (first | (with_reducible first | exact HI113.out | apply IsS27.alloc | apply IsS27.drewN | apply IsS27.drew) | exact HI113.out)⟩, ⟨by repeat (first | (with_reducible first | exact HB.out | apply below_alloc | apply pw_below_drewN | apply below_drew1 | refine below_set ?_ (IsS27.ge HI113.out)) | exact HB.out)⟩⟩
       ·rw [if_neg av] at H; exact absurd H (by simp)
      ·rw [if_neg al] at H; have aC : decide (aa < a1) = false := decide_eq_false al; clear al; obtain rfl := Option.some.inj H
       go_wp2
       go_ret; exact ⟨_, by first | rfl | (simp [errW_none, errW_some] <;> rfl) | (simp [*, errW_none, errW_some] <;> rfl), by (with_reducible repeat (first | apply Kd.R_alloc | apply Kd.R_drewN | apply Kd.R_drew)); exact ad.out, by repeat (first | (with_reducible first | exact HB.out | apply below_alloc | apply pw_below_drewN | apply below_drew1 | refine below_set ?_ (IsS27.ge HI113.out)) | exact HB.out)⟩

/-! ### spec_l1In: function 49 -/
def spec_l1In.f (a0 : Int) (a1 : Int) (a2 : Int) : Option (Bool) := if a0 ≥ a1 then (some (decide (a0 ≤ a2))) else (some false)
set_option maxHeartbeats 8000000 in
set_option maxRecDepth 100000 in
theorem spec_l1In.calls (a0 : Int) (a1 : Int) (a2 : Int) (r : Bool) (w : World) (h : spec_l1In.f a0 a1 a2 = some r) :
    Calls Try.prog 49 #[.int .i64 a0, .int .i64 a1, .int .i64 a2] w fun e w' => e = .returned (.bool r) ∧ Drawn0 w w' := by
  have H : (if a0 ≥ a1 then (some (decide (a0 ≤ a2))) else (some false)) = some r := h
  clear h
  by_cases c4 : a0 ≥ a1
  · rw [if_pos c4] at H
    have aa : decide (a1 ≤ a0) = true := decide_eq_true c4
    clear c4
    obtain rfl := Option.some.inj H
    go_enter Try.func49, Try.ntmps49
    go_wp2
    go_ret
    exact ⟨by first | rfl | (simp; done) | (simp [*]; done), by repeat (first | exact Drawn0.refl _ | apply Drawn0.step)⟩
  · rw [if_neg c4] at H
    have aa : decide (a1 ≤ a0) = false := decide_eq_false c4
    clear c4
    obtain rfl := Option.some.inj H
    go_enter Try.func49, Try.ntmps49
    go_wp2
    go_ret
    exact ⟨by first | rfl | (simp; done) | (simp [*]; done), by repeat (first | exact Drawn0.refl _ | apply Drawn0.step)⟩

/-! ### spec_l3Letters: function 50 -/
def spec_l3Letters.l0 : Nat → List Int → Int → Int → Option (Bool)
  | 0, _, _, _ => none
  | k + 1, x0, x1, x5 => if x5 < (x0.length : Int) then (if 0 ≤ x5 then ((spec_l1In.f (rd x0 x5) 0 (wrap64 (x1 - 1))).bind fun t122 => (if t122 = true then (spec_l3Letters.l0 k x0 x1 (wrap64 (x5 + 1))) else (some false))) else (none)) else (some true)
def spec_l3Letters.f (k : Nat) (l0 : List Int) (a1 : Int) : Option (Bool) := spec_l3Letters.l0 k l0 a1 0
theorem spec_l3Letters.mono_l : ∀ k, (∀ y0 y1 y2, LeO (spec_l3Letters.l0 k y0 y1 y2) (spec_l3Letters.l0 (k + 1) y0 y1 y2))
  | 0 => fun _ _ _ r h => by simp [spec_l3Letters.l0] at h
  | k + 1 => by
    have ih0 := spec_l3Letters.mono_l k
    · intro y0 y1 y2
      unfold spec_l3Letters.l0
      repeat' first
      | (with_reducible exact ih0 _ _ _)
      | (with_reducible exact LeO.refl _)
      | (with_reducible exact LeO.none _)
      | (with_reducible refine LeO.ite ?_ ?_)
      | (with_reducible refine LeO.bind ?_ (fun _ => ?_))
      | exact ih0 _ _ _
      | exact LeO.none _
      | refine LeO.ite ?_ ?_
      | refine LeO.bind ?_ (fun _ => ?_)
theorem spec_l3Letters.mono : ∀ a0 a1 k, LeO (spec_l3Letters.f k a0 a1) (spec_l3Letters.f (k + 1) a0 a1) := by
  intro a0 a1 k
  have ih0 := spec_l3Letters.mono_l k
  unfold spec_l3Letters.f
  repeat' first
      | (with_reducible exact ih0 _ _ _)
      | (with_reducible exact LeO.refl _)
      | (with_reducible exact LeO.none _)
      | (with_reducible refine LeO.ite ?_ ?_)
      | (with_reducible refine LeO.bind ?_ (fun _ => ?_))
      | exact ih0 _ _ _
      | exact LeO.none _
      | refine LeO.ite ?_ ?_
      | refine LeO.bind ?_ (fun _ => ?_)
set_option maxHeartbeats 8000000 in
set_option maxRecDepth 100000 in
theorem spec_l3Letters.calls (k : Nat) (A0 : Option Addr) (c0 : Nat) (l0 : List Int) (a1 : Int) (r : Bool) (w : World) (hr0 : Kd.C (Kd.int .i64) w A0 l0.length l0) (hc0 : l0.length ≤ c0) (h : spec_l3Letters.f k l0 a1 = some r) :
    Calls Try.prog 50 #[.slice A0 l0.length c0, .int .i64 a1] w fun e w' => e = .returned (.bool r) ∧ Drawn0 w w' := by
  have HR0 := Aside0.mk hr0
  have HC0 := Aside0.mk hc0
  clear hr0 hc0
  have H : (spec_l3Letters.l0 k l0 a1 0) = some r := h
  clear h
  have H' := Aside0.mk H
  clear H
  go_enter Try.func50, Try.ntmps50
  go_wp2
  go_loopg [5] k (fun kq v5 w' => ∃ (x5_1 : Int), v5 = .int .i64 x5_1 ∧ Aside0 (spec_l3Letters.l0 kq l0 a1 x5_1 = some r) ∧ Aside0 (kq ≤ k) ∧ Drawn0 w w')
  case atStart => exact ⟨(0), (by first | rfl | (simp; done) | (simp [*]; done) | (rw [Int.tmod_eq_emod_of_nonneg (Int.natCast_nonneg _)]; done)), H', ⟨Nat.le_refl _⟩, by repeat (first | exact Drawn0.refl _ | apply Drawn0.step)⟩
  case round =>
    clear H'
    try clear p2
    obtain ⟨x5_1, rfl, HA, HK1, ⟨m1, rfl⟩⟩ := hrel
    cases gk with
    | zero => exact absurd HA.out (by simp [spec_l3Letters.l0])
    | succ k1 =>
      have H := HA.out
      clear HA
      simp only [spec_l3Letters.l0] at H
      by_cases c3 : x5_1 < (l0.length : Int)
      · rw [if_pos c3] at H
        have ae : decide (x5_1 < (l0.length : Int)) = true := decide_eq_true c3
        clear c3
        by_cases c4 : 0 ≤ x5_1
        · rw [if_pos c4] at H
          have af : decide (0 ≤ x5_1) = true := decide_eq_true c4
          clear c4
          replace H := Option.bind_eq_some_iff.mp H
          obtain ⟨ac, ad, H⟩ := H
          replace H : (if ac = true then (spec_l3Letters.l0 k1 l0 a1 (wrap64 (x5_1 + 1))) else (some false)) = some r := H
          have A5 := Aside0.mk ad
          clear ad
          by_cases c6 : ac = true
          · subst c6
            have H1 : (spec_l3Letters.l0 k1 l0 a1 (wrap64 (x5_1 + 1))) = some r := by rw [if_pos rfl] at H; exact H
            clear H
            have H := H1
            clear H1
            have H' := Aside0.mk H
            clear H
            have aa : 0 ≤ (x5_1 : Int) := of_decide_eq_true (by first | (with_reducible assumption) | assumption)
            have q121 : x5_1 < (l0.length : Int) := of_decide_eq_true (by first | (with_reducible assumption) | assumption)
            obtain ⟨ad121, e121, ab⟩ := Kd.at_int HR0.out x5_1 aa q121
            cases e121
            replace aa := eq_true aa
            replace q121 := eq_true q121
            go_wp2_with (first | ((with_reducible refine gate_callee (f := 49) rfl ?_); refine goesL_ (some 18) rfl rfl Try.func49 (by kernel_rfl) rfl #[.int .i64 (rd l0 x5_1), .int .i64 0, .int .i64 (wrap64 (a1 - 1))] rfl (by (try simp only [List.map_toArray, List.map_cons, List.map_nil]); first | done | rfl | (simp only [List.length_drop, List.length_take]; rfl)) ?_; (with_reducible refine (spec_l1In.calls (rd l0 x5_1) 0 (wrap64 (a1 - 1)) true _ A5.out).mono ?_); rintro e w' ⟨rfl, ⟨nd, rfl⟩⟩; refine ⟨_, rfl, ?_⟩))
            go_roundg k1
            case measure => have := HK1.out; omega
            case rel => exact ⟨(wrap64 (x5_1 + 1)), (by first | rfl | (simp; done) | (simp [*]; done) | (rw [Int.tmod_eq_emod_of_nonneg (Int.natCast_nonneg _)]; done)), H', ⟨by have := HK1.out; omega⟩, by repeat (first | exact Drawn0.refl _ | apply Drawn0.step)⟩
          · replace c6 := Bool.eq_false_iff.mpr c6
            subst c6
            have H1 : (some false) = some r := by rw [if_neg (show ¬ (false = true) by decide)] at H; exact H
            clear H
            have H := H1
            clear H1
            obtain rfl := Option.some.inj H
            have aa : 0 ≤ (x5_1 : Int) := of_decide_eq_true (by first | (with_reducible assumption) | assumption)
            have q121 : x5_1 < (l0.length : Int) := of_decide_eq_true (by first | (with_reducible assumption) | assumption)
            obtain ⟨ad121, e121, ab⟩ := Kd.at_int HR0.out x5_1 aa q121
            cases e121
            replace aa := eq_true aa
            replace q121 := eq_true q121
            go_wp2_with (first | ((with_reducible refine gate_callee (f := 49) rfl ?_); refine goesL_ (some 18) rfl rfl Try.func49 (by kernel_rfl) rfl #[.int .i64 (rd l0 x5_1), .int .i64 0, .int .i64 (wrap64 (a1 - 1))] rfl (by (try simp only [List.map_toArray, List.map_cons, List.map_nil]); first | done | rfl | (simp only [List.length_drop, List.length_take]; rfl)) ?_; (with_reducible refine (spec_l1In.calls (rd l0 x5_1) 0 (wrap64 (a1 - 1)) false _ A5.out).mono ?_); rintro e w' ⟨rfl, ⟨nd, rfl⟩⟩; refine ⟨_, rfl, ?_⟩))
            go_ret
            exact ⟨by first | rfl | (simp; done) | (simp [*]; done), by repeat (first | exact Drawn0.refl _ | apply Drawn0.step)⟩
        · rw [if_neg c4] at H
          exact absurd H (by simp)
      · rw [if_neg c3] at H
        have ae : decide (x5_1 < (l0.length : Int)) = false := decide_eq_false c3
        clear c3
        obtain rfl := Option.some.inj H
        go_wp2
        go_ret
        exact ⟨by first | rfl | (simp; done) | (simp [*]; done), by repeat (first | exact Drawn0.refl _ | apply Drawn0.step)⟩


/-! ### spec_WordOk: function 16 -/
def spec_WordOk.j0 : Nat → Int → Bool → List Int → List Int → Option (Bool)
 | 0, _, _, _, _ => none
 | k + 1, x1, x20, x124000, x124001 => if x20 = true then (some false) else ((spec_l3Letters.f k x124000 x1).bind fun t126 => (if t126 = true then ((spec_l3Letters.f k x124001 x1).bind fun t127 => (some t127)) else (some false)))
def spec_WordOk.f (k : Nat) (l0_0 : List Int) (l0_1 : List Int) (a1 : Int) : Option (Bool) := (spec_l1In.f a1 1 8).bind fun t124 => (if t124 = true then (if (l0_0.length : Int) > 40 then (spec_WordOk.j0 k a1 true l0_0 l0_1) else ((spec_l1In.f (l0_1.length : Int) 1 40).bind fun t125 => (spec_WordOk.j0 k a1 (!t125) l0_0 l0_1))) else (spec_WordOk.j0 k a1 true l0_0 l0_1))
theorem spec_WordOk.mono_l : ∀ k, (∀ y0 y1 y2 y3, LeO (spec_WordOk.j0 k y0 y1 y2 y3) (spec_WordOk.j0 (k + 1) y0 y1 y2 y3))
 | 0 => fun _ _ _ _ r h => by simp [spec_WordOk.j0] at h
 | k + 1 => by
  have ih0 := spec_WordOk.mono_l k
  ·intro y0 y1 y2 y3
   unfold spec_WordOk.j0
   repeat' first
   | (with_reducible exact ih0 _ _ _ _)
   | (with_reducible exact spec_l3Letters.mono _ _ _)
   | (with_reducible exact LeO.refl _)
   | (with_reducible exact LeO.none _)
   | (with_reducible refine LeO.ite ?_ ?_)
   | (with_reducible refine LeO.bind ?_ (fun _ => ?_))
   | exact ih0 _ _ _ _
   | exact spec_l3Letters.mono _ _ _
   | exact LeO.none _
   | refine LeO.ite ?_ ?_
   | refine LeO.bind ?_ (fun _ => ?_)
theorem spec_WordOk.mono : ∀ a0 a1 a2 k, LeO (spec_WordOk.f k a0 a1 a2) (spec_WordOk.f (k + 1) a0 a1 a2) := by
 intro a0 a1 a2 k
 have ih0 := spec_WordOk.mono_l k
 unfold spec_WordOk.f
 repeat' first
   | (with_reducible exact ih0 _ _ _ _)
   | (with_reducible exact spec_l3Letters.mono _ _ _)
   | (with_reducible exact LeO.refl _)
   | (with_reducible exact LeO.none _)
   | (with_reducible refine LeO.ite ?_ ?_)
   | (with_reducible refine LeO.bind ?_ (fun _ => ?_))
   | exact ih0 _ _ _ _
   | exact spec_l3Letters.mono _ _ _
   | exact LeO.none _
   | refine LeO.ite ?_ ?_
   | refine LeO.bind ?_ (fun _ => ?_)
open Go.Proofs.Ythkljpbddddhdaa.Short2 in
set_option maxHeartbeats 8000000 in
set_option maxRecDepth 100000 in
theorem spec_WordOk.calls (k : Nat) (A0_0 : Option Addr) (c0_0 : Nat) (l0_0 : List Int) (A0_1 : Option Addr) (c0_1 : Nat) (l0_1 : List Int) (a1 : Int) (r : Bool) (w : World) (hr0_0 : Kd.C (Kd.int .i64) w A0_0 l0_0.length l0_0) (hc0_0 : l0_0.length ≤ c0_0) (hr0_1 : Kd.C (Kd.int .i64) w A0_1 l0_1.length l0_1) (hc0_1 : l0_1.length ≤ c0_1) (h : spec_WordOk.f k l0_0 l0_1 a1 = some r) :
  Calls Try.prog 16 #[.agg #[.slice A0_0 l0_0.length c0_0, .slice A0_1 l0_1.length c0_1], .int .i64 a1] w fun e w' => e = .returned (.bool r) ∧ Below w.heap.size w w' := by
 have hu27 := Try.underlying27; have HR0_0 := Aside0.mk hr0_0; have HC0_0 := Aside0.mk hc0_0; clear hr0_0 hc0_0; have HR0_1 := Aside0.mk hr0_1; have HC0_1 := Aside0.mk hc0_1; clear hr0_1 hc0_1; have HB := Aside0.mk (Below.refl w.heap.size w); have H : ((spec_l1In.f a1 1 8).bind fun ag => (if ag = true then (if (l0_0.length : Int) > 40 then (spec_WordOk.j0 k a1 true l0_0 l0_1) else ((spec_l1In.f (l0_1.length : Int) 1 40).bind fun ac => (spec_WordOk.j0 k a1 (!ac) l0_0 l0_1))) else (spec_WordOk.j0 k a1 true l0_0 l0_1))) = some r := h; clear h; have HC3 := Aside0.mk H; clear H
 go_enter Try.func16, Try.ntmps16
 go_upto_region 1 with (first | ((with_reducible refine gate_dst (N := 2) rfl ?_); (try (refine gate_guard (by rfl) ?_; dsimp only)); refine box_event ?hg (N := 2) ?hd (cs := #[.slice A0_0 l0_0.length c0_0, .slice A0_1 l0_1.length c0_1]) (t := 27) ?hr ?_; (case hd => rfl); (case hg => rfl); (case hr => first | (go_simp; done) | (go_simp; rfl)); intro ab hg w4 hbox hb; have aa := Aside0.mk (hbox); have aL := xG HB hg; have ah := xG HB hg; replace HB := xS HB hb; clear hb hbox hg))
 (try simp only [Act.put, q3])
 go_cut [20] (fun aJ wc => ∃ (kq : Nat) (af : Bool), aJ = .bool af ∧ Aside0 (spec_WordOk.j0 kq a1 af l0_0 l0_1 = some r) ∧ Aside0 (kq ≤ k) ∧ Aside0 (wc.heap[ab]? = some (.cells #[(.slice A0_0 l0_0.length c0_0), (.slice A0_1 l0_1.length c0_1)] 27 (0, 0))) ∧ Aside0 (Below w.heap.size w wc))
 case first =>
  have H := HC3.out; clear HC3; replace H := Option.bind_eq_some_iff.mp H; obtain ⟨ag, ay, H⟩ := H; replace H : (if ag = true then (if (l0_0.length : Int) > 40 then (spec_WordOk.j0 k a1 true l0_0 l0_1) else ((spec_l1In.f (l0_1.length : Int) 1 40).bind fun ac => (spec_WordOk.j0 k a1 (!ac) l0_0 l0_1))) else (spec_WordOk.j0 k a1 true l0_0 l0_1)) = some r := H; have A5 := Aside0.mk ay; clear ay
  by_cases c6 : ag = true
  ·subst c6
   have H1 : (if (l0_0.length : Int) > 40 then (spec_WordOk.j0 k a1 true l0_0 l0_1) else ((spec_l1In.f (l0_1.length : Int) 1 40).bind fun ac => (spec_WordOk.j0 k a1 (!ac) l0_0 l0_1))) = some r := by rw [if_pos rfl] at H; exact H
   clear H; have H := H1; clear H1
   by_cases c7 : (l0_0.length : Int) > 40
   ·rw [if_pos c7] at H; have ae : decide (40 < (l0_0.length : Int)) = true := decide_eq_true c7; have ap : decide (40 < l0_0.length) = true := decide_eq_true (by omega); clear c7
    (first | rw [ae] | (simp only [i64_w, i32_w]; rw [ae]) | skip)
    have H' := Aside0.mk H; clear H
    go_wp2_with (first | ((with_reducible refine gate_callee (f := 49) rfl ?_); refine goesL_ (some 6) rfl rfl Try.func49 (by kernel_rfl) rfl #[.int .i64 a1, .int .i64 1, .int .i64 8] rfl (by (try simp only [m3]); first | done | rfl | (simp only [d2]; rfl)) ?_; (with_reducible refine (spec_l1In.calls a1 1 8 true _ A5.out).mono ?_); rintro e w' ⟨rfl, ⟨nd, rfl⟩⟩; refine ⟨_, rfl, ?_⟩; have aq : w4.cell? ⟨ab, 0, none⟩ = some (.slice A0_0 l0_0.length c0_0) := b1 aa 0; have ar : w4.cell? ⟨ab, 1, none⟩ = some (.slice A0_1 l0_1.length c0_1) := b1 aa 1; have au := blk_frozen aa.out 0; have av := blk_frozen aa.out 1))
    go_meet
    case rel => exact ⟨_, (true), (by first | rfl | (simp; done) | (simp [*]; done) | (rw [Int.tmod_eq_emod_of_nonneg (Int.natCast_nonneg _)]; done)), H', ⟨by first | omega | exact Nat.le_refl _⟩, ⟨zB aa.out⟩, ⟨zS HB.out⟩⟩
   ·rw [if_neg c7] at H; have ae : decide (40 < (l0_0.length : Int)) = false := decide_eq_false c7; have ap : decide (40 < l0_0.length) = false := decide_eq_false (by omega); clear c7
    (first | rw [ae] | (simp only [i64_w, i32_w]; rw [ae]) | skip)
    replace H := Option.bind_eq_some_iff.mp H; obtain ⟨ac, az, H⟩ := H; replace H : (spec_WordOk.j0 k a1 (!ac) l0_0 l0_1) = some r := H; have A9 := Aside0.mk az; clear az; have H' := Aside0.mk H; clear H
    go_wp2_with (first | ((with_reducible refine gate_callee (f := 49) rfl ?_); refine goesL_ (some 6) rfl rfl Try.func49 (by kernel_rfl) rfl #[.int .i64 a1, .int .i64 1, .int .i64 8] rfl (by (try simp only [m3]); first | done | rfl | (simp only [d2]; rfl)) ?_; (with_reducible refine (spec_l1In.calls a1 1 8 true _ A5.out).mono ?_); rintro e w' ⟨rfl, ⟨nd, rfl⟩⟩; refine ⟨_, rfl, ?_⟩; have al : w4.cell? ⟨ab, 0, none⟩ = some (.slice A0_0 l0_0.length c0_0) := b1 aa 0; have am : w4.cell? ⟨ab, 1, none⟩ = some (.slice A0_1 l0_1.length c0_1) := b1 aa 1; have an := blk_frozen aa.out 0; have ao := blk_frozen aa.out 1) | (go_at_call 49; (with_reducible refine (spec_l1In.calls (l0_1.length : Int) 1 40 ac _ A9.out).mono ?_); rintro e w' ⟨rfl, ⟨nd, rfl⟩⟩))
    go_meet
    case rel => exact ⟨_, (!ac), (by first | rfl | (simp; done) | (simp [*]; done) | (rw [Int.tmod_eq_emod_of_nonneg (Int.natCast_nonneg _)]; done)), H', ⟨by first | omega | exact Nat.le_refl _⟩, ⟨zB aa.out⟩, ⟨zS HB.out⟩⟩
  ·replace c6 := Bool.eq_false_iff.mpr c6; subst c6
   have H1 : (spec_WordOk.j0 k a1 true l0_0 l0_1) = some r := by rw [if_neg (show ¬ (false = true) by decide)] at H; exact H
   clear H; have H := H1; clear H1; have H' := Aside0.mk H; clear H
   go_wp2_with (first | ((with_reducible refine gate_callee (f := 49) rfl ?_); refine goesL_ (some 6) rfl rfl Try.func49 (by kernel_rfl) rfl #[.int .i64 a1, .int .i64 1, .int .i64 8] rfl (by (try simp only [m3]); first | done | rfl | (simp only [d2]; rfl)) ?_; (with_reducible refine (spec_l1In.calls a1 1 8 false _ A5.out).mono ?_); rintro e w' ⟨rfl, ⟨nd, rfl⟩⟩; refine ⟨_, rfl, ?_⟩))
   go_meet
   case rel => exact ⟨_, (true), (by first | rfl | (simp; done) | (simp [*]; done) | (rw [Int.tmod_eq_emod_of_nonneg (Int.natCast_nonneg _)]; done)), H', ⟨by first | omega | exact Nat.le_refl _⟩, ⟨zB aa.out⟩, ⟨zS HB.out⟩⟩
 case rest =>
  clear HC3
  try clear c1
  try clear p2
  try clear c4
  try clear c6
  try clear c7
  try clear ae
  try clear ap
  try clear al
  try clear am
  try clear aq
  try clear ar
  try clear an
  try clear ao
  try clear au
  try clear av
  obtain ⟨kq, af, rfl, HA, HJ2, aa, HB⟩ := hcut
  cases kq with
  | zero => exact absurd HA.out (by simp [spec_WordOk.j0])
  | succ kj2 =>
   have H := HA.out; clear HA; simp only [spec_WordOk.j0] at H
   by_cases aj : af = true
   ·subst aj
    have H1 : (some false) = some r := by rw [if_pos rfl] at H; exact H
    clear H; have H := H1; clear H1; obtain rfl := Option.some.inj H
    go_wp2
    go_ret; exact ⟨by first | rfl | (simp [errW_none, errW_some] <;> rfl) | (simp [*, errW_none, errW_some] <;> rfl), by repeat (first | (with_reducible first | exact HB.out | apply below_alloc | apply pw_below_drewN | apply below_drew1 | refine below_set ?_ ah.out) | exact HB.out)⟩
   ·replace aj := Bool.eq_false_iff.mpr aj; subst aj
    have H1 : ((spec_l3Letters.f kj2 l0_0 a1).bind fun ai => (if ai = true then ((spec_l3Letters.f kj2 l0_1 a1).bind fun ad => (some ad)) else (some false))) = some r := by rw [if_neg (show ¬ (false = true) by decide)] at H; exact H
    clear H; have H := H1; clear H1; replace H := Option.bind_eq_some_iff.mp H; obtain ⟨ai, aw, H⟩ := H; replace H : (if ai = true then ((spec_l3Letters.f kj2 l0_1 a1).bind fun ad => (some ad)) else (some false)) = some r := H; have aA := Aside0.mk aw; clear aw
    by_cases ak : ai = true
    ·subst ak
     have H1 : ((spec_l3Letters.f kj2 l0_1 a1).bind fun ad => (some ad)) = some r := by rw [if_pos rfl] at H; exact H
     clear H; have H := H1; clear H1; replace H := Option.bind_eq_some_iff.mp H; obtain ⟨ad, ax, H⟩ := H; replace H : (some ad) = some r := H; have aK := Aside0.mk ax; clear ax; obtain rfl := Option.some.inj H; have aB : wc.cell? ⟨ab, 0, none⟩ = some (.slice A0_0 l0_0.length c0_0) := b1 aa 0; have aC : wc.cell? ⟨ab, 1, none⟩ = some (.slice A0_1 l0_1.length c0_1) := b1 aa 1; have aD := blk_frozen aa.out 0; have aE := blk_frozen aa.out 1
     go_wp2_with (first | ((with_reducible refine gate_callee (f := 50) rfl ?_); refine goesL_ (some 24) rfl rfl Try.func50 (by kernel_rfl) rfl #[.slice A0_0 l0_0.length c0_0, .int .i64 a1] rfl (by (try simp only [m3]); first | done | rfl | (simp only [d2]; rfl)) ?_; (with_reducible refine (spec_l3Letters.calls kj2 _ _ l0_0 a1 true _ ?side1 ?side2 aA.out).mono ?_); (case side1 => exact zC (Kd.C_below HR0_0.out HB.out)); (case side2 => exact HC0_0.out); rintro e w' ⟨rfl, ⟨nd, rfl⟩⟩; refine ⟨_, rfl, ?_⟩) | (go_at_call 50; (with_reducible refine (spec_l3Letters.calls kj2 _ _ l0_1 a1 ad _ ?side1 ?side2 aK.out).mono ?_); (case side1 => repeat (first | exact (Kd.C_below HR0_1.out (zS HB.out)) | (with_reducible refine Kd.C_alloc ?_ _) | (with_reducible refine Kd.C_drewN ?_ _) | (with_reducible refine Kd.C_drew ?_))); (case side2 => exact HC0_1.out); rintro e w' ⟨rfl, ⟨nd, rfl⟩⟩))
     go_ret; exact ⟨by first | rfl | (simp [errW_none, errW_some] <;> rfl) | (simp [*, errW_none, errW_some] <;> rfl), by repeat (first | (with_reducible first | exact HB.out | apply below_alloc | apply pw_below_drewN | apply below_drew1 | refine below_set ?_ ah.out) | exact HB.out)⟩
    ·replace ak := Bool.eq_false_iff.mpr ak; subst ak
     have H1 : (some false) = some r := by rw [if_neg (show ¬ (false = true) by decide)] at H; exact H
     clear H; have H := H1; clear H1; obtain rfl := Option.some.inj H; have aF : wc.cell? ⟨ab, 0, none⟩ = some (.slice A0_0 l0_0.length c0_0) := b1 aa 0; have aG : wc.cell? ⟨ab, 1, none⟩ = some (.slice A0_1 l0_1.length c0_1) := b1 aa 1; have aH := blk_frozen aa.out 0; have aI := blk_frozen aa.out 1
     go_wp2_with (first | ((with_reducible refine gate_callee (f := 50) rfl ?_); refine goesL_ (some 24) rfl rfl Try.func50 (by kernel_rfl) rfl #[.slice A0_0 l0_0.length c0_0, .int .i64 a1] rfl (by (try simp only [m3]); first | done | rfl | (simp only [d2]; rfl)) ?_; (with_reducible refine (spec_l3Letters.calls kj2 _ _ l0_0 a1 false _ ?side1 ?side2 aA.out).mono ?_); (case side1 => exact zC (Kd.C_below HR0_0.out HB.out)); (case side2 => exact HC0_0.out); rintro e w' ⟨rfl, ⟨nd, rfl⟩⟩; refine ⟨_, rfl, ?_⟩))
     go_ret; exact ⟨by first | rfl | (simp [errW_none, errW_some] <;> rfl) | (simp [*, errW_none, errW_some] <;> rfl), by repeat (first | (with_reducible first | exact HB.out | apply below_alloc | apply pw_below_drewN | apply below_drew1 | refine below_set ?_ ah.out) | exact HB.out)⟩

end Go.Proofs.Ythkljpbddddhdaa.MFnJoin3
