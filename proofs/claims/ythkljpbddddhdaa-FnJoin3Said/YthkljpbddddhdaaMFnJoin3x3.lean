-- Written by a program of this session, out of Lean's print of the translation. Not trusted: Lean checks it.
import Derived.Test.YthkljpbddddhdaaMFnJoin3x0
import Derived.Test.YthkljpbddddhdaaMFnJoin3x1
import Derived.Test.YthkljpbddddhdaaMFnJoin3x2
namespace Go.Proofs.Ythkljpbddddhdaa.MFnJoin3
open Go.RowKit Go.Proofs.YthkljpbddddhdaaW.PrintWords Go.Proofs.YthkljpbddddhdaaW.PrintLast Go.Proofs.YthkljpbddddhdaaW.PrintMore
attribute [local go_sem] max2_int min2_int max_two min_two max_three min_three max_four min_four   -- for this text's walks alone
set_option linter.unusedVariables false
set_option linter.unusedSimpArgs false

section
open Go.Proofs.Ythkljpbddddhdaa.Short2.T
abbrev impl_WordTail.bl0 : Array Bool := #[f, f, f, f, f, f, f, f, f, f]
abbrev impl_WordTail.bl1 : Array Bool := #[t, f, f, f, f, f, f, f, f, f]
abbrev impl_WordTail.bl2 : Array Bool := #[t, f, t, f, f, f, f, f, f, f]
abbrev impl_WordTail.bl3 : Array Bool := #[t, f, t, f, t, f, f, f, f, f]
abbrev impl_WordTail.bl4 : Array Bool := #[t, t, t, f, t, f, f, f, f, f]
abbrev impl_WordTail.bl5 : Array Bool := #[t, t, t, t, t, f, f, f, f, f]
abbrev impl_WordTail.bl6 : Array Bool := #[t, t, t, t, t, t, f, f, f, f]
abbrev impl_WordTail.bl7 : Array Bool := #[t, t, t, t, t, t, t, f, f, f]
abbrev impl_WordTail.bl8 : Array Bool := #[t, t, t, t, t, t, t, t, f, f]
abbrev impl_WordTail.bl9 : Array Bool := #[t, t, t, t, t, t, t, t, t, f]
abbrev impl_WordTail.bl10 : Array Bool := #[t, t, t, t, t, t, t, t, t, t]
abbrev impl_WordTail.bl11 : Array Bool := #[f, f, f, f, f, f, f, f, f, f, f, f, f]
abbrev impl_WordTail.bl12 : Array Bool := #[t, f, f, f, f, f, f, f, f, f, f, f, f]
abbrev impl_WordTail.bl13 : Array Bool := #[t, f, t, f, f, f, f, f, f, f, f, f, f]
abbrev impl_WordTail.bl14 : Array Bool := #[t, f, t, f, t, f, f, f, f, f, f, f, f]
abbrev impl_WordTail.bl15 : Array Bool := #[t, f, t, f, t, f, t, f, f, f, f, f, f]
abbrev impl_WordTail.bl16 : Array Bool := #[t, t, t, f, t, f, t, f, f, f, f, f, f]
abbrev impl_WordTail.bl17 : Array Bool := #[t, t, t, t, t, f, t, f, f, f, f, f, f]
abbrev impl_WordTail.bl18 : Array Bool := #[t, t, t, t, t, t, t, f, f, f, f, f, f]
abbrev impl_WordTail.bl19 : Array Bool := #[t, t, t, t, t, t, t, t, f, f, f, f, f]
abbrev impl_WordTail.bl20 : Array Bool := #[t, t, t, t, t, t, t, t, t, f, f, f, f]
abbrev impl_WordTail.bl21 : Array Bool := #[t, t, t, t, t, t, t, t, t, t, f, f, f]
abbrev impl_WordTail.bl22 : Array Bool := #[t, t, t, t, t, t, t, t, t, t, t, f, f]
abbrev impl_WordTail.bl23 : Array Bool := #[t, t, t, t, t, t, t, t, t, t, t, t, f]
abbrev impl_WordTail.bl24 : Array Bool := #[t, t, t, t, t, t, t, t, t, t, t, t, t]
end
/-! ### impl_WordTail: function 35 -/
def impl_WordTail.j0 : Nat → Int → Bool → List Int → List Int → Option (List Int × List Int × Bool)
 | 0, _, _, _, _ => none
 | k + 1, x1, x14, x197000, x197001 => if x14 = true then (some (([] : List Int), ([] : List Int), false)) else (if x1 < (x197000.length : Int) then (if 0 ≤ x1 then (if x1 ≤ (x197000.length : Int) then ((impl_copyWord.f (x197000.drop (x1 : Int).toNat) x197001).bind fun bt201 => (some (bt201.1, bt201.2, true))) else (none)) else (none)) else (if (x197001.length : Int) = 0 then (none) else (if 0 ≤ (Int.tmod (wrap64 (x1 - (x197000.length : Int))) (x197001.length : Int)) then (if (Int.tmod (wrap64 (x1 - (x197000.length : Int))) (x197001.length : Int)) ≤ (x197001.length : Int) then ((slices_Concat_int_int.f k (([(x197001.drop ((Int.tmod (wrap64 (x1 - (x197000.length : Int))) (x197001.length : Int)) : Int).toNat), (x197001.take ((Int.tmod (wrap64 (x1 - (x197000.length : Int))) (x197001.length : Int)) : Int).toNat)] : List (List Int)))).bind fun t220 => (some (([] : List Int), t220, true))) else (none)) else (none))))
def impl_WordTail.f (k : Nat) (l0_0 : List Int) (l0_1 : List Int) (a1 : Int) : Option (List Int × List Int × Bool) := (impl_inRange.f a1 0 1000000).bind fun t198 => (if t198 = true then ((impl_isRight.f k l0_0 l0_1).bind fun t199 => (impl_WordTail.j0 k a1 (!t199) l0_0 l0_1)) else (impl_WordTail.j0 k a1 true l0_0 l0_1))
theorem impl_WordTail.mono_l : ∀ k, (∀ y0 y1 y2 y3, LeO (impl_WordTail.j0 k y0 y1 y2 y3) (impl_WordTail.j0 (k + 1) y0 y1 y2 y3))
 | 0 => fun _ _ _ _ r h => by simp [impl_WordTail.j0] at h
 | k + 1 => by
  have ih0 := impl_WordTail.mono_l k
  ·intro y0 y1 y2 y3
   unfold impl_WordTail.j0
   repeat' first
   | (with_reducible exact ih0 _ _ _ _)
   | (with_reducible exact impl_isRight.mono _ _ _)
   | (with_reducible exact slices_Concat_int_int.mono _ _)
   | (with_reducible exact LeO.refl _)
   | (with_reducible exact LeO.none _)
   | (with_reducible refine LeO.ite ?_ ?_)
   | (with_reducible refine LeO.bind ?_ (fun _ => ?_))
   | exact ih0 _ _ _ _
   | exact impl_isRight.mono _ _ _
   | exact slices_Concat_int_int.mono _ _
   | exact LeO.none _
   | refine LeO.ite ?_ ?_
   | refine LeO.bind ?_ (fun _ => ?_)
theorem impl_WordTail.mono : ∀ a0 a1 a2 k, LeO (impl_WordTail.f k a0 a1 a2) (impl_WordTail.f (k + 1) a0 a1 a2) := by
 intro a0 a1 a2 k
 have ih0 := impl_WordTail.mono_l k
 unfold impl_WordTail.f
 repeat' first
   | (with_reducible exact ih0 _ _ _ _)
   | (with_reducible exact impl_isRight.mono _ _ _)
   | (with_reducible exact slices_Concat_int_int.mono _ _)
   | (with_reducible exact LeO.refl _)
   | (with_reducible exact LeO.none _)
   | (with_reducible refine LeO.ite ?_ ?_)
   | (with_reducible refine LeO.bind ?_ (fun _ => ?_))
   | exact ih0 _ _ _ _
   | exact impl_isRight.mono _ _ _
   | exact slices_Concat_int_int.mono _ _
   | exact LeO.none _
   | refine LeO.ite ?_ ?_
   | refine LeO.bind ?_ (fun _ => ?_)
def impl_WordTail.T4 : Bool × List (List Nat × List Nat) := (true, [([], []), ([0], [0]), ([], []), ([1, 2], [1, 2]), ([], []), ([4], [4]), ([3, 5], [3, 5]), ([6], [6]), ([7, 7, 0, 1, 2, 3, 4, 5, 6, 7], [7]), ([8, 0, 1, 2, 3, 4, 5, 6, 7, 8], [])])
def impl_WordTail.B4 : List Nat := [0, 1, 0, 7, 0, 16, 63, 127, 255, 511]
theorem impl_WordTail.tab4 : rtab .any (opsOf Try.f35 4) = impl_WordTail.T4 := by kernel_rfl
theorem impl_WordTail.bits4 : waitsOk impl_WordTail.T4.2 impl_WordTail.B4 = true := by kernel_rfl
def impl_WordTail.T6 : Bool × List (List Nat × List Nat) := (true, [([], []), ([0], [0]), ([], []), ([1, 2], [1, 2]), ([], []), ([4], [4]), ([], []), ([5, 6], [5, 6]), ([3, 7], [3, 7]), ([8], [8]), ([9], [9]), ([10, 9, 0, 1, 2, 3, 4, 5, 6, 7, 8, 9, 10], [10]), ([11, 0, 1, 2, 3, 4, 5, 6, 7, 8, 9, 10, 11], [])])
def impl_WordTail.B6 : List Nat := [0, 1, 0, 7, 0, 16, 0, 112, 255, 511, 1023, 2047, 4095]
theorem impl_WordTail.tab6 : rtab .any (opsOf Try.f35 6) = impl_WordTail.T6 := by kernel_rfl
theorem impl_WordTail.bits6 : waitsOk impl_WordTail.T6.2 impl_WordTail.B6 = true := by kernel_rfl
open Go.Proofs.Ythkljpbddddhdaa.Short2 in
set_option maxHeartbeats 8000000 in
set_option maxRecDepth 100000 in
theorem impl_WordTail.calls (k : Nat) (A0_0 : Option Addr) (c0_0 : Nat) (l0_0 : List Int) (P0_1_ : Nat → Prop) (A0_1 : Option Addr) (c0_1 : Nat) (l0_1 : List Int) (a1 : Int) (r1 : List Int) (r2 : List Int) (r3 : Bool) (w : World) (hr0_0 : Kd.C (Kd.int .i64) w A0_0 l0_0.length l0_0) (hc0_0 : l0_0.length ≤ c0_0) (hs0_1 : Kd.V (Kd.int .i64) 3 w w.heap.size (fun k_ => P0_1_ k_) (.slice A0_1 l0_1.length c0_1) l0_1) (h : impl_WordTail.f k l0_0 l0_1 a1 = some (r1, r2, r3)) :
  Calls Try.prog 35 #[.agg #[.slice A0_0 l0_0.length c0_0, .slice A0_1 l0_1.length c0_1], .int .i64 a1] w fun e w' => ∃ v0_ v1_ : Value, e = .returned (.tuple #[.agg #[v0_, v1_], .bool r3]) ∧ Kd.R (Kd.int .i64) 3 w' w.heap.size (fun k_ => (w.heap.size ≤ k_) ∧ some k_ ≠ (v1_ : Value).ownBlock) v0_ r1 ∧ Kd.R (Kd.int .i64) 3 w' w.heap.size (fun k_ => (w.heap.size ≤ k_) ∧ some k_ ≠ (v0_ : Value).ownBlock) v1_ r2 ∧ Below w.heap.size w w' := by
 have hu27 := Try.underlying27; have HR0_0 := Aside0.mk hr0_0; have HC0_0 := Aside0.mk hc0_0; clear hr0_0 hc0_0; have HO0_1 := Aside0.mk (show Kd.V (Kd.int .i64) 3 w w.heap.size (fun k_ => (P0_1_ k_ ∨ w.heap.size ≤ k_)) (.slice A0_1 l0_1.length c0_1) l0_1 from Kd.V_mono hs0_1 (fun k_ hk => .inl hk)); have HB := Aside0.mk (Below.refl w.heap.size w); have H : ((impl_inRange.f a1 0 1000000).bind fun ay => (if ay = true then ((impl_isRight.f k l0_0 l0_1).bind fun ak => (impl_WordTail.j0 k a1 (!ak) l0_0 l0_1)) else (impl_WordTail.j0 k a1 true l0_0 l0_1))) = some (r1, r2, r3) := h; clear h; have HC3 := Aside0.mk H; clear H
 go_enter Try.func35, Try.ntmps35
 go_upto_region 1 with (first | ((with_reducible refine gate_dst (N := 2) rfl ?_); refine box_event ?hg (N := 2) ?hd (cs := #[.slice A0_0 l0_0.length c0_0, .slice A0_1 l0_1.length c0_1]) (t := 27) ?hr ?_; (case hd => rfl); (case hg => rfl); (case hr => first | (go_simp; done) | (go_simp; rfl)); intro af hg w4 hbox hb; replace HO0_1 := Aside0.mk (Kd.V_below (Kd.V_elderB (by (with_reducible repeat (first | apply Kd.V_alloc | apply Kd.V_drewN | apply Kd.V_drew)); exact HO0_1.out) af (Nat.le_of_eq hg.symm)) hb); have aa := Aside0.mk (hbox); have bO := xG HB hg; have az := xG HB hg; replace HB := xS HB hb; clear hb hbox hg) | ((with_reducible refine gate_dst (N := 4) rfl ?_); refine box_event ?hg (N := 4) ?hd (cs := #[.slice none 0 0, .slice none 0 0]) (t := 27) ?hr ?_; (case hd => rfl); (case hg => rfl); (case hr => first | (go_simp; done) | (go_simp; rfl)); intro ac hg w5 hbox hb; replace HO0_1 := Aside0.mk (Kd.V_below (Kd.V_elderB (by (with_reducible repeat (first | apply Kd.V_alloc | apply Kd.V_drewN | apply Kd.V_drew)); exact HO0_1.out) ac (Nat.le_of_eq hg.symm)) hb); have ab := Aside0.mk (hbox); have bP := xG HB hg; have aA := xG HB hg; replace HB := xS HB hb; have ae := xN aa hg; have ag := xM aa hg; replace aa := xB aa hb; clear hb hbox hg))
 (try simp only [Act.put, q3])
 go_cut [14] (fun bJ wc => ∃ (kq : Nat) (au : Bool), bJ = .bool au ∧ Aside0 (impl_WordTail.j0 kq a1 au l0_0 l0_1 = some (r1, r2, r3)) ∧ Aside0 (kq ≤ k) ∧ Aside0 (Kd.V (Kd.int .i64) 3 wc w.heap.size (fun k_ => (P0_1_ k_ ∨ w.heap.size ≤ k_) ∧ k_ ≠ af ∧ k_ ≠ ac) (.slice A0_1 l0_1.length c0_1) l0_1) ∧ Aside0 (wc.heap[af]? = some (.cells #[(.slice A0_0 l0_0.length c0_0), (.slice A0_1 l0_1.length c0_1)] 27 (0, 0))) ∧ Aside0 (wc.heap[ac]? = some (.cells #[(.slice none 0 0), (.slice none 0 0)] 27 (0, 0))) ∧ Aside0 (Below w.heap.size w wc))
 case first =>
  have H := HC3.out; clear HC3; replace H := Option.bind_eq_some_iff.mp H; obtain ⟨ay, bi, H⟩ := H; replace H : (if ay = true then ((impl_isRight.f k l0_0 l0_1).bind fun ak => (impl_WordTail.j0 k a1 (!ak) l0_0 l0_1)) else (impl_WordTail.j0 k a1 true l0_0 l0_1)) = some (r1, r2, r3) := H; have A6 := Aside0.mk bi; clear bi
  by_cases c7 : ay = true
  ·subst c7
   have H1 : ((impl_isRight.f k l0_0 l0_1).bind fun ak => (impl_WordTail.j0 k a1 (!ak) l0_0 l0_1)) = some (r1, r2, r3) := by rw [if_pos rfl] at H; exact H
   clear H; have H := H1; clear H1; replace H := Option.bind_eq_some_iff.mp H; obtain ⟨ak, bj, H⟩ := H; replace H : (impl_WordTail.j0 k a1 (!ak) l0_0 l0_1) = some (r1, r2, r3) := H; have A8 := Aside0.mk bj; clear bj; have H' := Aside0.mk H; clear H
   go_wp2_with (first | ((with_reducible refine gate_callee (f := 52) rfl ?_); refine goesL_ (some 8) rfl rfl Try.func52 (by kernel_rfl) rfl #[.int .i64 a1, .int .i64 0, .int .i64 1000000] rfl (by (try simp only [m3]); first | done | rfl | (simp only [d2]; rfl)) ?_; (with_reducible refine (impl_inRange.calls a1 0 1000000 true _ A6.out).mono ?_); rintro e w' ⟨rfl, ⟨nd, rfl⟩⟩; refine ⟨_, rfl, ?_⟩; have cn := ae.out; have co := ag.out; have aV : w5.cell? ⟨af, 0, none⟩ = some (.slice A0_0 l0_0.length c0_0) := b1 aa 0; have aW : w5.cell? ⟨af, 1, none⟩ = some (.slice A0_1 l0_1.length c0_1) := b1 aa 1; have aX := blk_frozen aa.out 0; have aY := blk_frozen aa.out 1) | (go_at_call 56; (with_reducible refine (impl_isRight.calls k _ _ l0_0 _ _ l0_1 ak _ ?side1 ?side2 ?side3 ?side4 A8.out).mono ?_); (case side1 => repeat (first | exact (Kd.C_below HR0_0.out (zS HB.out)) | (with_reducible refine Kd.C_alloc ?_ _) | (with_reducible refine Kd.C_drewN ?_ _) | (with_reducible refine Kd.C_drew ?_))); (case side2 => exact HC0_0.out); (case side3 => exact zC (Kd.V_reads' HO0_1.out).2.2); (case side4 => exact (Kd.V_reads' HO0_1.out).2.1); rintro e cy ⟨rfl, hb⟩; replace HO0_1 := Aside0.mk (Kd.V_below (by (with_reducible repeat (first | apply Kd.V_alloc | apply Kd.V_drewN | apply Kd.V_drew)); exact HO0_1.out) hb); replace aa := xB aa hb; replace ab := xB ab hb; replace HB := xS HB hb; (try clear hb); (try clear hb2); (try clear hk); (try clear hi)))
   go_meet
   case rel => exact ⟨_, (!ak), (by first | rfl | (simp; done) | (simp [*]; done) | (rw [Int.tmod_eq_emod_of_nonneg (Int.natCast_nonneg _)]; done)), H', ⟨by first | omega | exact Nat.le_refl _⟩, ⟨by (with_reducible repeat (first | apply Kd.V_alloc | apply Kd.V_drewN | apply Kd.V_drew)); exact Kd.V_mono HO0_1.out (fun _ hk => ⟨hk.1.1, ⟨hk.1.2, hk.2⟩⟩)⟩, ⟨zB aa.out⟩, ⟨zB ab.out⟩, ⟨zS HB.out⟩⟩
  ·replace c7 := Bool.eq_false_iff.mpr c7; subst c7
   have H1 : (impl_WordTail.j0 k a1 true l0_0 l0_1) = some (r1, r2, r3) := by rw [if_neg (show ¬ (false = true) by decide)] at H; exact H
   clear H; have H := H1; clear H1; have H' := Aside0.mk H; clear H
   go_wp2_with (first | ((with_reducible refine gate_callee (f := 52) rfl ?_); refine goesL_ (some 8) rfl rfl Try.func52 (by kernel_rfl) rfl #[.int .i64 a1, .int .i64 0, .int .i64 1000000] rfl (by (try simp only [m3]); first | done | rfl | (simp only [d2]; rfl)) ?_; (with_reducible refine (impl_inRange.calls a1 0 1000000 false _ A6.out).mono ?_); rintro e w' ⟨rfl, ⟨nd, rfl⟩⟩; refine ⟨_, rfl, ?_⟩))
   go_meet
   case rel => exact ⟨_, (true), (by first | rfl | (simp; done) | (simp [*]; done) | (rw [Int.tmod_eq_emod_of_nonneg (Int.natCast_nonneg _)]; done)), H', ⟨by first | omega | exact Nat.le_refl _⟩, ⟨by (with_reducible repeat (first | apply Kd.V_alloc | apply Kd.V_drewN | apply Kd.V_drew)); exact Kd.V_mono HO0_1.out (fun _ hk => ⟨hk.1.1, ⟨hk.1.2, hk.2⟩⟩)⟩, ⟨zB aa.out⟩, ⟨zB ab.out⟩, ⟨zS HB.out⟩⟩
 case rest =>
  clear HC3
  try clear p2
  try clear c3
  try clear c5
  try clear c7
  try clear c9
  try clear aV
  try clear aW
  try clear aX
  try clear aY
  obtain ⟨kq, au, rfl, HA, HJ2, ad, aa, ab, HB⟩ := hcut
  cases kq with
  | zero => exact absurd HA.out (by simp [impl_WordTail.j0])
  | succ kj2 =>
   have H := HA.out; clear HA; simp only [impl_WordTail.j0] at H
   by_cases aM : au = true
   ·subst aM
    have H1 : (some (([] : List Int), ([] : List Int), false)) = some (r1, r2, r3) := by rw [if_pos rfl] at H; exact H
    clear H; have H := H1; clear H1; simp only [Option.some.injEq, Prod.mk.injEq] at H; obtain ⟨rfl, rfl, rfl⟩ := H; have bQ := ag.out; have bR := ae.out; have bo : wc.cell? ⟨ac, 0, none⟩ = some (.slice none 0 0) := b1 ab 0; have bp : wc.cell? ⟨ac, 1, none⟩ = some (.slice none 0 0) := b1 ab 1; have bq := blk_frozen ab.out 0; have br := blk_frozen ab.out 1
    go_wp2
    refine bodyPost_ret (results_ct rfl _ _ ac 27 #[.slice none 0 0, .slice none 0 0] (0, 0) _ rfl (by (with_reducible repeat (first | refine blk_drewN ?_ _ | refine blk_drew ?_ | refine blk_alloc ?_ _)); refine blk_put (cs := #[.slice none 0 0, .slice none 0 0]) ?_ 1 _ rfl; (with_reducible repeat (first | refine blk_drewN ?_ _ | refine blk_drew ?_ | refine blk_alloc ?_ _)); refine blk_put (cs := #[.slice none 0 0, .slice none 0 0]) ?_ 0 _ rfl; (with_reducible repeat (first | refine blk_drewN ?_ _ | refine blk_drew ?_ | refine blk_alloc ?_ _)); exact ab.out) Try.underlying27 rfl (by kernel_rfl)) rfl ?_; exact ⟨_, _, by first | rfl | (simp [errW_none, errW_some] <;> rfl) | (simp [*, errW_none, errW_some] <;> rfl), by first | exact Kd.R_nil _ _ _ _ _ | exact Kd.N_nil _ _ _ _ _ | exact Kd.V_nil _ _ _ _ _ | exact Kd.Q_nil _ _ _ _ _ | exact Kd.S_nil _ _ _ _ _, by first | exact Kd.R_nil _ _ _ _ _ | exact Kd.N_nil _ _ _ _ _ | exact Kd.V_nil _ _ _ _ _ | exact Kd.Q_nil _ _ _ _ _ | exact Kd.S_nil _ _ _ _ _, by repeat (first | (with_reducible first | exact HB.out | apply below_alloc | apply pw_below_drewN | apply below_drew1 | refine below_set ?_ az.out | refine below_set ?_ aA.out) | exact HB.out)⟩
   ·replace aM := Bool.eq_false_iff.mpr aM; subst aM
    have H1 : (if a1 < (l0_0.length : Int) then (if 0 ≤ a1 then (if a1 ≤ (l0_0.length : Int) then ((impl_copyWord.f (l0_0.drop (a1 : Int).toNat) l0_1).bind fun bt201 => (some (bt201.1, bt201.2, true))) else (none)) else (none)) else (if (l0_1.length : Int) = 0 then (none) else (if 0 ≤ (Int.tmod (wrap64 (a1 - (l0_0.length : Int))) (l0_1.length : Int)) then (if (Int.tmod (wrap64 (a1 - (l0_0.length : Int))) (l0_1.length : Int)) ≤ (l0_1.length : Int) then ((slices_Concat_int_int.f kj2 (([(l0_1.drop ((Int.tmod (wrap64 (a1 - (l0_0.length : Int))) (l0_1.length : Int)) : Int).toNat), (l0_1.take ((Int.tmod (wrap64 (a1 - (l0_0.length : Int))) (l0_1.length : Int)) : Int).toNat)] : List (List Int)))).bind fun ah => (some (([] : List Int), ah, true))) else (none)) else (none)))) = some (r1, r2, r3) := by rw [if_neg (show ¬ (false = true) by decide)] at H; exact H
    clear H; have H := H1; clear H1
    by_cases ax : a1 < (l0_0.length : Int)
    ·rw [if_pos ax] at H; have bh : decide (a1 < (l0_0.length : Int)) = true := decide_eq_true ax; clear ax
     by_cases aD : 0 ≤ a1
     ·rw [if_pos aD] at H; have bS := eq_true aD; have bT : decide (0 ≤ a1) = true := decide_eq_true aD; clear aD
      by_cases aE : a1 ≤ (l0_0.length : Int)
      ·rw [if_pos aE] at H; have bU := eq_true aE; have bV : decide (a1 ≤ (l0_0.length : Int)) = true := decide_eq_true aE; clear aE; replace H := Option.bind_eq_some_iff.mp H; obtain ⟨⟨ar, av⟩, aZ, H⟩ := H; replace H : (some (ar, av, true)) = some (r1, r2, r3) := H; have bK := Aside0.mk aZ; clear aZ; simp only [Option.some.injEq, Prod.mk.injEq] at H; obtain ⟨rfl, rfl, rfl⟩ := H; have bW := ae.out; have bX := ag.out; have bs : wc.cell? ⟨af, 0, none⟩ = some (.slice A0_0 l0_0.length c0_0) := b1 aa 0; have bt : wc.cell? ⟨af, 1, none⟩ = some (.slice A0_1 l0_1.length c0_1) := b1 aa 1; have bu := blk_frozen aa.out 0; have bv := blk_frozen aa.out 1
       try go_wp2
       replace ad := Aside0.mk (Kd.V_drew ad.out); replace aa := Aside0.mk (blk_drew aa.out); replace ab := Aside0.mk (blk_drew ab.out); replace HB := Aside0.mk (below_drew1 HB.out); obtain ⟨i022, hi022, _, hsz22, _⟩ := info_parts info3; obtain ⟨bL, hcut22, hA22, hC22⟩ := print_drop_of (P := Try.prog) (Value.int .i64) 0 22 3 .i64 Try.underlying22 hi022 hsz22 A0_0 c0_0 l0_0 a1 (of_decide_eq_true (by first | (with_reducible assumption) | assumption)) (of_decide_eq_true (by first | (with_reducible assumption) | assumption)) HC0_0.out; have HR200 := Aside0.mk (Kd.C_of_reads (h1 := fun _ => rfl) (hA22 _ (Kd.reads_of_C HR0_0.out))); have HC200 := Aside0.mk hC22; clear hA22 hC22 hi022 hsz22; refine start_ (n := 10) (S := fun w' => w'.cell? ⟨af, 0, none⟩ = some (.slice A0_0 l0_0.length c0_0) ∧ w'.cell? ⟨af, 1, none⟩ = some (.slice A0_1 l0_1.length c0_1)) (ds := []) bl0 (by kernel_rfl) rfl rfl ⟨b1 aa 0, b1 aa 1⟩ (fun hHeld => ?_); refine with_tabW impl_WordTail.tab4 impl_WordTail.bits4 (fun HT_ HW_ => ?_); generalize wc.drew = cz at ad aa ab HB HR200 hHeld ⊢
       refine pu 0 (some 21) bl1 HT_ ?_ rfl rfl (.inl ⟨by rfl, ?_⟩) ?_ ?_ ?_; rotate_left; (intro w'; go_simp; with_reducible rfl); rotate_left; (simp only [Act.put, q5]; rfl)
       refine pu 2 (some 23) bl2 HT_ ?_ rfl rfl (.inl ⟨by rfl, ?_⟩) ?_ ?_ ?_; rotate_left; (intro w'; go_simp; with_reducible rfl); rotate_left; (simp only [Act.put, q5]; rfl)
       refine pu 4 (some 25) bl3 HT_ ?_ rfl rfl (.inl ⟨by rfl, ?_⟩) ?_ ?_ ?_; rotate_left; (intro w'; go_simp; with_reducible rfl); rotate_left; (simp only [Act.put, q5]; rfl)
       refine take_ (i := 1) (N := some 22) (v := ?_) (a' := ?_) bl4 rfl rfl (take_ofW HT_.out HW_.out (by kernel_rfl)) (fun _ _ _ h => h) (Or.inl ⟨by rfl, ?_⟩) hHeld ?_ ?_; rotate_left
       ·rintro w' ⟨s0, s1⟩; go_simp; with_reducible rfl
       rotate_left
       ·simp only [Act.put, q5]; rfl
       refine pu 3 (some 24) bl5 HT_ ?_ rfl rfl (.inl ⟨by rfl, ?_⟩) ?_ ?_ ?_; rotate_left; (intro w'; go_simp; with_reducible rfl); rotate_left; (simp only [Act.put, q5]; rfl)
       refine take_ (i := 5) (N := some 26) (v := ?_) (a' := ?_) bl6 rfl rfl (take_ofW HT_.out HW_.out (by kernel_rfl)) (fun _ _ _ h => h) (Or.inl ⟨by rfl, ?_⟩) hHeld ?_ ?_; rotate_left
       ·rintro w' ⟨s0, s1⟩; go_simp; with_reducible rfl
       rotate_left
       ·simp only [Act.put, q5]; rfl
       refine pu 6 (some 27) bl7 HT_ ?_ rfl rfl (.inl ⟨by rfl, ?_⟩) ?_ ?_ ?_; rotate_left; (intro w'; go_simp; with_reducible rfl); rotate_left; (simp only [Act.put, q5]; rfl)
       refine one_ (i := 7) (N := some 28) bl8 rfl rfl (one_of HT_.out (by kernel_rfl)) (by decide) (fun K hK => ?_); refine goes_ Try.func63 (by kernel_rfl) rfl #[.agg #[.slice bL (l0_0.drop (a1 : Int).toNat).length (c0_0 - a1.toNat), .slice A0_1 l0_1.length c0_1]] (by rfl) rfl rfl (by (try simp only [m3]); first | done | (rw [show (l0_0.drop (a1 : Int).toNat).length = (l0_0.length - a1.toNat) from List.length_drop] <;> rfl) | rfl | (simp only [d2]; rfl)) ?_
       with_reducible refine (impl_copyWord.calls _ _ (l0_0.drop (a1 : Int).toNat) _ _ l0_1 ar av _ ?side1 ?side2 ?side3 ?side4 bK.out).mono ?_
       (case side1 => exact zC (Kd.C_below HR200.out HB.out))
       (case side2 => exact HC200.out)
       (case side3 => exact zC (Kd.V_reads' ad.out).2.2)
       (case side4 => exact (Kd.V_reads' ad.out).2.1)
       rintro e bk ⟨cp, cq, rfl, ho0, ho1, hb⟩; refine ⟨_, rfl, ?_⟩; replace ad := Aside0.mk (Kd.V_mono (Kd.V_told (Kd.V_told (Kd.V_old (by (with_reducible repeat (first | apply Kd.V_alloc | apply Kd.V_drewN | apply Kd.V_drew)); exact ad.out) hb) (Kd.R_base ho0)) (Kd.R_base ho1)) (fun _ h_ => h_.1)); have aN := Aside0.mk (Kd.R_lower (Kd.R_newM (M := fun k_ => (w.heap.size ≤ k_)) ho0 (below_size (zS HB.out)) (fun k_ h_ => h_)) (below_size (zS HB.out))); have aO := Aside0.mk (Kd.R_lower (Kd.R_newM (M := fun k_ => (w.heap.size ≤ k_)) ho1 (below_size (zS HB.out)) (fun k_ h_ => h_)) (below_size (zS HB.out))); replace aa := xB aa hb; replace ab := xB ab hb; replace HB := xS HB hb
       (try clear hb)
       (try clear hb2)
       (try clear hk)
       (try clear hi)
       (try clear ho0)
       (try clear ho1)
       obtain ⟨aB, aC, ba⟩ := Kd.R_slice aN.out
       (first | subst ba | (injection ba with f1_ f2_ f3_; have f4_ := f1_.symm; have f5_ := f3_.symm; clear f1_ f2_ f3_; subst f4_; subst f5_))
       obtain ⟨aI, aJ, bb⟩ := Kd.R_slice aO.out
       (first | subst bb | (injection bb with f1_ f2_ f3_; have f4_ := f1_.symm; have f5_ := f3_.symm; clear f1_ f2_ f3_; subst f4_; subst f5_))
       refine hK.out _ _ ⟨b1 aa 0, b1 aa 1⟩ (fun hHeld => ?_); clear hK K; refine norm_ (a' := ?_) ?_ ?_; rotate_left
       ·show Act.put _ (some 28) _ = _; simp only [Act.put, q5]; rfl
       refine one_ (i := 8) (N := none) bl9 rfl rfl (one_of HT_.out (by kernel_rfl)) (by decide) (fun K hK => ?_); have cr : bk.cell? ⟨ac, 0, none⟩ = some (.slice none 0 0) := b1 ab 0; have bY := blk_frozen ab.out 0; have bw := ae.out; have bx := ag.out; have ct : bk.cell? ⟨ac, 1, none⟩ = some (.slice none 0 0) := b1 ab 1; have bZ := blk_frozen ab.out 1; have bz := ae.out; have bA := ag.out; refine skip_ (w1 := ?_) (by rfl) rfl ?_ ?_; rotate_left
       ·go_simp; rfl
       refine hK.out _ _ ⟨((cell_far (p := ⟨ac, _, none⟩) ae.out _).trans (((cell_far (p := ⟨ac, _, none⟩) ae.out _).trans (hHeld.1)))), ((cell_far (p := ⟨ac, _, none⟩) ae.out _).trans (((cell_far (p := ⟨ac, _, none⟩) ae.out _).trans (hHeld.2))))⟩ (fun hHeld => ?_); clear hK K
       refine pu 9 (some 5) bl10 HT_ ?_ rfl rfl (.inl ⟨by rfl, ?_⟩) ?_ ?_ ?_; rotate_left; (intro w'; go_simp; with_reducible rfl); rotate_left; (simp only [Act.put, q5]; rfl)
       refine done_ (done_of HT_.out (by kernel_rfl)) ?_
       try go_wp2
       refine bodyPost_ret (results_ct rfl _ _ ac 27 #[.slice aB ar.length aC, .slice aI av.length aJ] (0, 0) _ rfl (by (with_reducible repeat (first | refine blk_drewN ?_ _ | refine blk_drew ?_ | refine blk_alloc ?_ _)); refine blk_put (cs := #[.slice aB ar.length aC, .slice none 0 0]) ?_ 1 _ rfl; (with_reducible repeat (first | refine blk_drewN ?_ _ | refine blk_drew ?_ | refine blk_alloc ?_ _)); refine blk_put (cs := #[.slice none 0 0, .slice none 0 0]) ?_ 0 _ rfl; (with_reducible repeat (first | refine blk_drewN ?_ _ | refine blk_drew ?_ | refine blk_alloc ?_ _)); exact ab.out) Try.underlying27 rfl (by kernel_rfl)) rfl ?_; exact ⟨_, _, by first | rfl | (simp [errW_none, errW_some] <;> rfl) | (simp [*, errW_none, errW_some] <;> rfl), by (with_reducible repeat (first | apply Kd.R_alloc | apply Kd.R_drewN | apply Kd.R_drew)); exact Kd.R_mono (Kd.R_far (p := ⟨ac, 1, none⟩) (Kd.R_far (p := ⟨ac, 0, none⟩) (Kd.R_types aN.out ab.out (by decide)) (fun _ hk => hk.2) (.slice aB ar.length aC)) (fun _ hk => hk.2) (.slice aI av.length aJ)) (fun _ hk => ⟨hk.1.1, hk.1.2⟩), by (with_reducible repeat (first | apply Kd.R_alloc | apply Kd.R_drewN | apply Kd.R_drew)); exact Kd.R_mono (Kd.R_far (p := ⟨ac, 1, none⟩) (Kd.R_far (p := ⟨ac, 0, none⟩) (Kd.R_types aO.out ab.out (by decide)) (fun _ hk => hk.2) (.slice aB ar.length aC)) (fun _ hk => hk.2) (.slice aI av.length aJ)) (fun _ hk => ⟨hk.1.1, hk.1.2⟩), by repeat (first | (with_reducible first | exact HB.out | apply below_alloc | apply pw_below_drewN | apply below_drew1 | refine below_set ?_ az.out | refine below_set ?_ aA.out) | exact HB.out)⟩
      ·rw [if_neg aE] at H; exact absurd H (by simp)
     ·rw [if_neg aD] at H; exact absurd H (by simp)
    ·rw [if_neg ax] at H; have bh : decide (a1 < (l0_0.length : Int)) = false := decide_eq_false ax; clear ax
     by_cases aF : (l0_1.length : Int) = 0
     ·rw [if_pos aF] at H; exact absurd H (by simp)
     ·rw [if_neg aF] at H; have ca : ((l0_1.length : Int) == 0) = false := beq_eq_false_iff_ne.mpr aF; have cb : ((l0_1.length : Int) != 0) = true := bne_iff_ne.mpr aF; have cc : ¬ (l0_1 = []) := fun h_ => aF (by rw [h_]; rfl); obtain ⟨ji29, hji29⟩ : ∃ j_ : Int, (Int.tmod (wrap64 (a1 - (l0_0.length : Int))) (l0_1.length : Int)) = j_ := ⟨_, rfl⟩
      replace H : (if 0 ≤ (ji29) then (if (ji29) ≤ (l0_1.length : Int) then ((slices_Concat_int_int.f kj2 (([(l0_1.drop ((ji29) : Int).toNat), (l0_1.take ((ji29) : Int).toNat)] : List (List Int)))).bind fun ah => (some (([] : List Int), ah, true))) else (none)) else (none)) = some (r1, r2, r3) := by first | (rw [hji29] at H; exact H) | (simp only [hji29] at H ⊢; exact H)
      by_cases aG : 0 ≤ (ji29)
      ·rw [if_pos aG] at H; have cd := eq_true aG; have ce : decide (0 ≤ (ji29)) = true := decide_eq_true aG; clear aG
       by_cases aH : (ji29) ≤ (l0_1.length : Int)
       ·rw [if_pos aH] at H; have cf := eq_true aH; have cg : decide ((ji29) ≤ (l0_1.length : Int)) = true := decide_eq_true aH; clear aH; obtain ⟨ai, an⟩ : ∃ y_ : List Int, y_ = (l0_1.drop ((ji29) : Int).toNat) := ⟨_, rfl⟩
        replace H : ((slices_Concat_int_int.f kj2 (([ai, (l0_1.take ((ji29) : Int).toNat)] : List (List Int)))).bind fun ah => (some (([] : List Int), ah, true))) = some (r1, r2, r3) := by first | (rw [an]; with_reducible exact H) | (have H2_ := (Option.bind_some _ _).symm.trans H; rw [an]; with_reducible exact H2_) | (have H2_ := (Option.bind_some _ _).symm.trans H; with_reducible exact H2_) | with_reducible exact H | (rw [an]; exact H) | exact H
        have aP := Aside0.mk an; clear an; have ch := eq_true (of_decide_eq_true (by first | (with_reducible assumption) | assumption) : 0 ≤ (ji29)); have ci := eq_true (of_decide_eq_true (by first | (with_reducible assumption) | assumption) : (ji29) ≤ (l0_1.length : Int)); obtain ⟨aj, ao⟩ : ∃ y_ : List Int, y_ = (l0_1.take ((ji29) : Int).toNat) := ⟨_, rfl⟩
        replace H : ((slices_Concat_int_int.f kj2 (([ai, aj] : List (List Int)))).bind fun ah => (some (([] : List Int), ah, true))) = some (r1, r2, r3) := by first | (rw [ao]; with_reducible exact H) | (have H2_ := (Option.bind_some _ _).symm.trans H; rw [ao]; with_reducible exact H2_) | (have H2_ := (Option.bind_some _ _).symm.trans H; with_reducible exact H2_) | with_reducible exact H | (rw [ao]; exact H) | exact H
        have aQ := Aside0.mk ao; clear ao; obtain ⟨aK, ap⟩ : ∃ y_ : List (List Int), y_ = (([ai, aj] : List (List Int))) := ⟨_, rfl⟩
        replace H : ((slices_Concat_int_int.f kj2 aK).bind fun ah => (some (([] : List Int), ah, true))) = some (r1, r2, r3) := by first | (rw [ap]; with_reducible exact H) | (have H2_ := (Option.bind_some _ _).symm.trans H; rw [ap]; with_reducible exact H2_) | (have H2_ := (Option.bind_some _ _).symm.trans H; with_reducible exact H2_) | with_reducible exact H | (rw [ap]; exact H) | exact H
        have aR := Aside0.mk ap; clear ap; replace H := Option.bind_eq_some_iff.mp H; obtain ⟨ah, bc, H⟩ := H; replace H : (some (([] : List Int), ah, true)) = some (r1, r2, r3) := H; have bM := Aside0.mk bc; clear bc; simp only [Option.some.injEq, Prod.mk.injEq] at H; obtain ⟨rfl, rfl, rfl⟩ := H; have cj := ae.out; have ck := ag.out; have bB : wc.cell? ⟨af, 0, none⟩ = some (.slice A0_0 l0_0.length c0_0) := b1 aa 0; have bC : wc.cell? ⟨af, 1, none⟩ = some (.slice A0_1 l0_1.length c0_1) := b1 aa 1; have bD := blk_frozen aa.out 0; have bE := blk_frozen aa.out 1
        try go_wp2
        replace ad := Aside0.mk (Kd.V_drew ad.out); replace aa := Aside0.mk (blk_drew aa.out); replace ab := Aside0.mk (blk_drew ab.out); replace HB := Aside0.mk (below_drew1 HB.out); have q38 : ((ji29) : Int) ≤ ((l0_1.length : Int) : Int) := of_decide_eq_true (by first | (with_reducible assumption) | assumption); obtain ⟨i038, hi038, _, hsz38, _⟩ := info_parts info3; have hroom38 : l0_1.length ≤ c0_1 := (Kd.V_reads' ad.out).2.1; have hC38 : Kd.F (Kd.int .i64) _ _ A0_1 l0_1.length l0_1 := (Kd.V_at (base := w.heap.size) ad.out).2.2; have q038 : (0 : Int) ≤ ((ji29) : Int) := of_decide_eq_true (by first | (with_reducible assumption) | assumption); have hcut38 := cut_from (P := Try.prog) 22 3 .i64 Try.underlying22 hi038 1 hsz38 A0_1 l0_1.length c0_1 (ji29) q038 q38; have hr38 := Kd.F_cut (m := ((ji29) : Int).toNat) (c := c0_1) hC38 (by omega) hroom38; obtain ⟨aS, hA38⟩ : ∃ A1, A1 = (if c0_1 = ((ji29) : Int).toNat then A0_1 else (A0_1 : Option Addr).map (·.add (((ji29) : Int).toNat * 1))) := ⟨_, rfl⟩; obtain ⟨aT, hc38⟩ : ∃ c1, c1 = c0_1 - ((ji29) : Int).toNat := ⟨_, rfl⟩; have aw : ai.length = l0_1.length - ((ji29) : Int).toNat := (by rw [aP.out, List.length_drop] <;> omega); rw [show (l0_1).drop ((ji29) : Int).toNat = ai from aP.out.symm] at hr38; replace hr38 : Kd.F (Kd.int .i64) _ _ aS ai.length ai := (by rw [hA38]; exact hr38); rw [← aw, ← hA38, ← hc38] at hcut38; have al := Aside0.mk (show Kd.V (Kd.int .i64) 3 _ w.heap.size _ (.slice aS ai.length aT) ai from Kd.V_mk (by rw [aw, hc38]; exact Nat.sub_le_sub_right hroom38 _) hr38); have HC211 := Aside0.mk (show ai.length ≤ aT from by rw [aw, hc38]; exact Nat.sub_le_sub_right hroom38 _); clear hr38 hC38 hroom38 hi038 hsz38 hc38; have KY38 := Aside0.mk aw; have KA38 := Aside0.mk hA38; clear aw hA38; replace q38 := eq_true q38; have q39 : ((ji29) : Int) ≤ ((l0_1.length : Int) : Int) := of_decide_eq_true (by first | (with_reducible assumption) | assumption); obtain ⟨i039, hi039, _, hsz39, _⟩ := info_parts info3; have hroom39 : l0_1.length ≤ c0_1 := (Kd.V_reads' ad.out).2.1; have hC39 : Kd.F (Kd.int .i64) _ _ A0_1 l0_1.length l0_1 := (Kd.V_at (base := w.heap.size) ad.out).2.2; have hcut39 := cut_to (P := Try.prog) 22 3 .i64 Try.underlying22 hi039 A0_1 l0_1.length c0_1 (ji29) (of_decide_eq_true (by first | (with_reducible assumption) | assumption)) q39 hroom39; have hr39 := Kd.F_take (m := ((ji29) : Int).toNat) hC39 (by omega); have aL : aj.length = ((ji29) : Int).toNat := (by rw [aQ.out, List.length_take]; omega); rw [← aQ.out] at hr39; rw [← aL] at hcut39; have am := Aside0.mk (show Kd.V (Kd.int .i64) 3 _ w.heap.size _ (.slice A0_1 aj.length c0_1) aj from Kd.V_mk (by omega) hr39); have HC216 := Aside0.mk (show aj.length ≤ c0_1 from by omega); clear hr39 hC39 hroom39 hi039 hsz39; have KY39 := Aside0.mk aL; clear aL; replace q39 := eq_true q39
        refine start_ (n := 13) (S := fun w' => w'.cell? ⟨af, 0, none⟩ = some (.slice A0_0 l0_0.length c0_0) ∧ w'.cell? ⟨af, 1, none⟩ = some (.slice A0_1 l0_1.length c0_1)) (ds := []) bl11 (by kernel_rfl) rfl rfl ⟨b1 aa 0, b1 aa 1⟩ (fun hHeld => ?_); refine with_tabW impl_WordTail.tab6 impl_WordTail.bits6 (fun HT_ HW_ => ?_); generalize wc.drew = bN at ad aa ab HB al am hHeld ⊢
        refine pu 0 (some 38) bl12 HT_ ?_ rfl rfl (.inl ⟨by rfl, ?_⟩) ?_ ?_ ?_; rotate_left; (intro w'; go_simp; with_reducible rfl); rotate_left; (simp only [Act.put, q5]; rfl)
        refine pu 2 (some 40) bl13 HT_ ?_ rfl rfl (.inl ⟨by rfl, ?_⟩) ?_ ?_ ?_; rotate_left; (intro w'; go_simp; with_reducible rfl); rotate_left; (simp only [Act.put, q5]; rfl)
        refine pu 4 (some 42) bl14 HT_ ?_ rfl rfl (.inl ⟨by rfl, ?_⟩) ?_ ?_ ?_; rotate_left; (intro w'; go_simp; with_reducible rfl); rotate_left; (simp only [Act.put, q5]; rfl)
        refine pu 6 (some 44) bl15 HT_ ?_ rfl rfl (.inl ⟨by rfl, ?_⟩) ?_ ?_ ?_; rotate_left; (intro w'; go_simp; with_reducible rfl); rotate_left; (simp only [Act.put, q5]; rfl)
        refine take_ (i := 1) (N := some 39) (v := ?_) (a' := ?_) bl16 rfl rfl (take_ofW HT_.out HW_.out (by kernel_rfl)) (fun _ _ _ h => h) (Or.inl ⟨by rfl, ?_⟩) hHeld ?_ ?_; rotate_left
        ·rintro w' ⟨s0, s1⟩; go_simp; with_reducible rfl
        rotate_left
        ·simp only [Act.put, q5]; rfl
        refine pu 3 (some 41) bl17 HT_ ?_ rfl rfl (.inl ⟨by rfl, ?_⟩) ?_ ?_ ?_; rotate_left; (intro w'; go_simp; with_reducible rfl); rotate_left; (simp only [Act.put, q5]; rfl)
        refine take_ (i := 5) (N := some 43) (v := ?_) (a' := ?_) bl18 rfl rfl (take_ofW HT_.out HW_.out (by kernel_rfl)) (fun _ _ _ h => h) (Or.inl ⟨by rfl, ?_⟩) hHeld ?_ ?_; rotate_left
        ·rintro w' ⟨s0, s1⟩; go_simp; with_reducible rfl
        rotate_left
        ·simp only [Act.put, q5]; rfl
        refine pu 7 (some 45) bl19 HT_ ?_ rfl rfl (.inl ⟨by rfl, ?_⟩) ?_ ?_ ?_; rotate_left; (intro w'; go_simp; with_reducible rfl); rotate_left; (simp only [Act.put, q5]; rfl)
        refine one_ (i := 8) (N := some 46) bl20 rfl rfl (one_of HT_.out (by kernel_rfl)) (by decide) (fun K hK => ?_)
        refine Kd.N_lit_step (Kd.slice 3 (Kd.int .i64)) _ 22 ?hg (N' := 46) ?hd (xs := ([ai, aj] : List (List Int))) (inner := [.slice aS ai.length aT, .slice A0_1 aj.length c0_1]) (ok := (fun k_ => (P0_1_ k_ ∨ w.heap.size ≤ k_) ∧ k_ ≠ af ∧ k_ ≠ ac)) (okp := (fun k_ => (P0_1_ k_ ∨ w.heap.size ≤ k_) ∧ k_ ≠ af ∧ k_ ≠ ac)) ?hr ?hp (fun _ hk => hk) ((show ∀ k_, bN.heap.size ≤ k_ → (fun k_ => (P0_1_ k_ ∨ w.heap.size ≤ k_) ∧ k_ ≠ af ∧ k_ ≠ ac) k_ from fun k_ hk => ⟨(.inr (Nat.le_trans (below_size (zS HB.out)) hk)), Kd.freshB (g := af) (o := .cells #[.slice A0_0 l0_0.length c0_0, .slice A0_1 l0_1.length c0_1] 27 (0, 0)) (zB aa.out) k_ hk, Kd.freshB (g := ac) (o := .cells #[.slice none 0 0, .slice none 0 0] 27 (0, 0)) (zB ab.out) k_ hk⟩) _ (Nat.le_refl _)) (Below.refl _ _) (Nat.le_refl _) (by simp) ?_; (case hd => rfl); (case hg => rfl); (case hr => first | (go_simp; done) | (go_simp; rfl)); (case hp => exact (Reps.one (show Kd.FK (Kd.slice 3 (Kd.int .i64)) _ _ ai [.slice aS ai.length aT] from (Kd.FK_slice_mk (Kd.V_reads' (Kd.V_mono (ok' := (fun k_ => (P0_1_ k_ ∨ w.heap.size ≤ k_) ∧ k_ ≠ af ∧ k_ ≠ ac)) (al.out) (fun k_ hk => ⟨hk.1, ⟨hk.2.1, hk.2.2⟩⟩))).2.1 (Kd.V_F (Kd.V_mono (ok' := (fun k_ => (P0_1_ k_ ∨ w.heap.size ≤ k_) ∧ k_ ≠ af ∧ k_ ≠ ac)) (al.out) (fun k_ hk => ⟨hk.1, ⟨hk.2.1, hk.2.2⟩⟩))))) (Reps.one (show Kd.FK (Kd.slice 3 (Kd.int .i64)) _ _ aj [.slice A0_1 aj.length c0_1] from (Kd.FK_slice_mk (Kd.V_reads' (Kd.V_mono (ok' := (fun k_ => (P0_1_ k_ ∨ w.heap.size ≤ k_) ∧ k_ ≠ af ∧ k_ ≠ ac)) (am.out) (fun k_ hk => ⟨hk.1, ⟨hk.2.1, hk.2.2⟩⟩))).2.1 (Kd.V_F (Kd.V_mono (ok' := (fun k_ => (P0_1_ k_ ∨ w.heap.size ≤ k_) ∧ k_ ≠ af ∧ k_ ≠ ac)) (am.out) (fun k_ hk => ⟨hk.1, ⟨hk.2.1, hk.2.2⟩⟩))))) (Reps.none _ _))))
        intro cu cA ho41 hb hg_ hnew_; clear hg_ hnew_
        (first | rw [← aR.out] at ho41 | (simp only [Int.reduceToNat] at ho41; rw [← aR.out] at ho41))
        replace ad := Aside0.mk (Kd.V_elder' (by (with_reducible repeat (first | apply Kd.V_alloc | apply Kd.V_drewN | apply Kd.V_drew)); exact ad.out) (Kd.N_base ho41) hb); replace al := Aside0.mk (Kd.V_elder' (by (with_reducible repeat (first | apply Kd.V_alloc | apply Kd.V_drewN | apply Kd.V_drew)); exact al.out) (Kd.N_base ho41) hb); replace am := Aside0.mk (Kd.V_elder' (by (with_reducible repeat (first | apply Kd.V_alloc | apply Kd.V_drewN | apply Kd.V_drew)); exact am.out) (Kd.N_base ho41) hb); have aq := Aside0.mk (Kd.N_lower ho41 (below_size (zS HB.out))); replace aa := xB aa hb; replace ab := xB ab hb; replace HB := xS HB hb; clear hb ho41; obtain ⟨bm, bn, bd⟩ := Kd.N_slice aq.out
        (first | subst bd | (injection bd with f1_ f2_ f3_; have f4_ := f1_.symm; have f5_ := f3_.symm; clear f1_ f2_ f3_; subst f4_; subst f5_))
        refine hK.out _ _ ⟨b1 aa 0, b1 aa 1⟩ (fun hHeld => ?_); clear hK K; refine norm_ (a' := ?_) ?_ ?_; rotate_left
        ·show Act.put _ (some 46) _ = _; simp only [Act.put, q5]; rfl
        refine one_ (i := 9) (N := some 47) bl21 rfl rfl (one_of HT_.out (by kernel_rfl)) (by decide) (fun K hK => ?_); refine goes_ Try.func61 (by kernel_rfl) rfl #[.slice bm aK.length bn] (by rfl) rfl rfl (by (try simp only [m3]); first | done | rfl | (simp only [d2]; rfl)) ?_
        with_reducible refine (slices_Concat_int_int.calls kj2 _ _ aK ah _ ?side1 ?side2 bM.out).mono ?_
        (case side1 => exact zC (Kd.N_reads' aq.out).2.2)
        (case side2 => exact (Kd.N_reads' aq.out).2.1)
        rintro e bl ⟨cv, rfl, ho0, hb⟩; refine ⟨_, rfl, ?_⟩; replace ad := Aside0.mk (Kd.V_elder' (by (with_reducible repeat (first | apply Kd.V_alloc | apply Kd.V_drewN | apply Kd.V_drew)); exact ad.out) (Kd.R_base ho0) hb); replace al := Aside0.mk (Kd.V_elder' (by (with_reducible repeat (first | apply Kd.V_alloc | apply Kd.V_drewN | apply Kd.V_drew)); exact al.out) (Kd.R_base ho0) hb); replace am := Aside0.mk (Kd.V_elder' (by (with_reducible repeat (first | apply Kd.V_alloc | apply Kd.V_drewN | apply Kd.V_drew)); exact am.out) (Kd.R_base ho0) hb); replace aq := Aside0.mk (Kd.N_elder' (by (with_reducible repeat (first | apply Kd.N_alloc | apply Kd.N_drewN | apply Kd.N_drew)); exact aq.out) (Kd.R_base ho0) hb); have aU := Aside0.mk (Kd.R_lower (Kd.R_newM (M := fun k_ => (w.heap.size ≤ k_)) ho0 (below_size (zS HB.out)) (fun k_ h_ => h_)) (below_size (zS HB.out))); replace aa := xB aa hb; replace ab := xB ab hb; replace HB := xS HB hb
        (try clear hb)
        (try clear hb2)
        (try clear hk)
        (try clear hi)
        (try clear ho0)
        obtain ⟨be, bf, bg⟩ := Kd.R_slice aU.out
        (first | subst bg | (injection bg with f1_ f2_ f3_; have f4_ := f1_.symm; have f5_ := f3_.symm; clear f1_ f2_ f3_; subst f4_; subst f5_))
        refine hK.out _ _ ⟨b1 aa 0, b1 aa 1⟩ (fun hHeld => ?_); clear hK K; refine norm_ (a' := ?_) ?_ ?_; rotate_left
        ·show Act.put _ (some 47) _ = _; simp only [Act.put, q5]; rfl
        refine pu 10 (some 48) bl22 HT_ ?_ rfl rfl (.inl ⟨by rfl, ?_⟩) ?_ ?_ ?_; rotate_left; (intro w'; go_simp; with_reducible rfl); rotate_left; (simp only [Act.put, q5]; rfl)
        refine one_ (i := 11) (N := none) bl23 rfl rfl (one_of HT_.out (by kernel_rfl)) (by decide) (fun K hK => ?_); have cw : bl.cell? ⟨ac, 0, none⟩ = some (.slice none 0 0) := b1 ab 0; have cl := blk_frozen ab.out 0; have bF := ae.out; have bG := ag.out; have cx : bl.cell? ⟨ac, 1, none⟩ = some (.slice none 0 0) := b1 ab 1; have cm := blk_frozen ab.out 1; have bH := ae.out; have bI := ag.out; refine skip_ (w1 := ?_) (by rfl) rfl ?_ ?_; rotate_left
        ·go_simp; rfl
        refine hK.out _ _ ⟨((cell_far (p := ⟨ac, _, none⟩) ae.out _).trans (((cell_far (p := ⟨ac, _, none⟩) ae.out _).trans (hHeld.1)))), ((cell_far (p := ⟨ac, _, none⟩) ae.out _).trans (((cell_far (p := ⟨ac, _, none⟩) ae.out _).trans (hHeld.2))))⟩ (fun hHeld => ?_); clear hK K
        refine pu 12 (some 5) bl24 HT_ ?_ rfl rfl (.inl ⟨by rfl, ?_⟩) ?_ ?_ ?_; rotate_left; (intro w'; go_simp; with_reducible rfl); rotate_left; (simp only [Act.put, q5]; rfl)
        refine done_ (done_of HT_.out (by kernel_rfl)) ?_
        try go_wp2
        refine bodyPost_ret (results_ct rfl _ _ ac 27 #[.slice none 0 0, .slice be ah.length bf] (0, 0) _ rfl (by (with_reducible repeat (first | refine blk_drewN ?_ _ | refine blk_drew ?_ | refine blk_alloc ?_ _)); refine blk_put (cs := #[.slice none 0 0, .slice none 0 0]) ?_ 1 _ rfl; (with_reducible repeat (first | refine blk_drewN ?_ _ | refine blk_drew ?_ | refine blk_alloc ?_ _)); refine blk_put (cs := #[.slice none 0 0, .slice none 0 0]) ?_ 0 _ rfl; (with_reducible repeat (first | refine blk_drewN ?_ _ | refine blk_drew ?_ | refine blk_alloc ?_ _)); exact ab.out) Try.underlying27 rfl (by kernel_rfl)) rfl ?_; exact ⟨_, _, by first | rfl | (simp [errW_none, errW_some] <;> rfl) | (simp only [← hji29]; first | rfl | (simp [errW_none, errW_some] <;> rfl)) | (simp [*, errW_none, errW_some] <;> rfl), by first | exact Kd.R_nil _ _ _ _ _ | exact Kd.N_nil _ _ _ _ _ | exact Kd.V_nil _ _ _ _ _ | exact Kd.Q_nil _ _ _ _ _ | exact Kd.S_nil _ _ _ _ _, by (with_reducible repeat (first | apply Kd.R_alloc | apply Kd.R_drewN | apply Kd.R_drew)); exact Kd.R_mono (Kd.R_far (p := ⟨ac, 1, none⟩) (Kd.R_far (p := ⟨ac, 0, none⟩) (Kd.R_types aU.out ab.out (by decide)) (fun _ hk => hk.2) (.slice none 0 0)) (fun _ hk => hk.2) (.slice be ah.length bf)) (fun _ hk => ⟨hk.1.1, (by simp [Value.ownBlock])⟩), by repeat (first | (with_reducible first | exact HB.out | apply below_alloc | apply pw_below_drewN | apply below_drew1 | refine below_set ?_ az.out | refine below_set ?_ aA.out) | exact HB.out)⟩
       ·rw [if_neg aH] at H; exact absurd H (by simp)
      ·rw [if_neg aG] at H; exact absurd H (by simp)


/-! ### slices_Equal_int_int: function 75 -/
def slices_Equal_int_int.l0 : Nat → List Int → List Int → Int → Int → Option (Bool)
 | 0, _, _, _, _ => none
 | k + 1, x0, x1, x12, x13 => if x13 < x12 then (if 0 ≤ x13 then (if x13 < (x0.length : Int) then (if x13 < (x1.length : Int) then (if (rd x0 x13) = (rd x1 x13) then (slices_Equal_int_int.l0 k x0 x1 x12 (wrap64 (x13 + 1))) else (some false)) else (none)) else (none)) else (none)) else (some true)
def slices_Equal_int_int.f (k : Nat) (l0 : List Int) (l1 : List Int) : Option (Bool) := if (l0.length : Int) = (l1.length : Int) then (slices_Equal_int_int.l0 k l0 l1 (l0.length : Int) 0) else (some false)
theorem slices_Equal_int_int.mono_l : ∀ k, (∀ y0 y1 y2 y3, LeO (slices_Equal_int_int.l0 k y0 y1 y2 y3) (slices_Equal_int_int.l0 (k + 1) y0 y1 y2 y3))
 | 0 => fun _ _ _ _ r h => by simp [slices_Equal_int_int.l0] at h
 | k + 1 => by
  have ih0 := slices_Equal_int_int.mono_l k
  ·intro y0 y1 y2 y3
   unfold slices_Equal_int_int.l0
   repeat' first
   | (with_reducible exact ih0 _ _ _ _)
   | (with_reducible exact LeO.refl _)
   | (with_reducible exact LeO.none _)
   | (with_reducible refine LeO.ite ?_ ?_)
   | (with_reducible refine LeO.bind ?_ (fun _ => ?_))
   | exact ih0 _ _ _ _
   | exact LeO.none _
   | refine LeO.ite ?_ ?_
   | refine LeO.bind ?_ (fun _ => ?_)
theorem slices_Equal_int_int.mono : ∀ a0 a1 k, LeO (slices_Equal_int_int.f k a0 a1) (slices_Equal_int_int.f (k + 1) a0 a1) := by
 intro a0 a1 k
 have ih0 := slices_Equal_int_int.mono_l k
 unfold slices_Equal_int_int.f
 repeat' first
   | (with_reducible exact ih0 _ _ _ _)
   | (with_reducible exact LeO.refl _)
   | (with_reducible exact LeO.none _)
   | (with_reducible refine LeO.ite ?_ ?_)
   | (with_reducible refine LeO.bind ?_ (fun _ => ?_))
   | exact ih0 _ _ _ _
   | exact LeO.none _
   | refine LeO.ite ?_ ?_
   | refine LeO.bind ?_ (fun _ => ?_)
open Go.Proofs.Ythkljpbddddhdaa.Short2 in
set_option maxHeartbeats 8000000 in
set_option maxRecDepth 100000 in
theorem slices_Equal_int_int.calls (k : Nat) (A0 : Option Addr) (c0 : Nat) (l0 : List Int) (A1 : Option Addr) (c1 : Nat) (l1 : List Int) (r : Bool) (w : World) (hr0 : Kd.C (Kd.int .i64) w A0 l0.length l0) (hc0 : l0.length ≤ c0) (hr1 : Kd.C (Kd.int .i64) w A1 l1.length l1) (hc1 : l1.length ≤ c1) (h : slices_Equal_int_int.f k l0 l1 = some r) :
  Calls Try.prog 75 #[.slice A0 l0.length c0, .slice A1 l1.length c1] w fun e w' => e = .returned (.bool r) ∧ Drawn0 w w' := by
 have HR0 := Aside0.mk hr0; have HC0 := Aside0.mk hc0; clear hr0 hc0; have HR1 := Aside0.mk hr1; have HC1 := Aside0.mk hc1; clear hr1 hc1; have H : (if (l0.length : Int) = (l1.length : Int) then (slices_Equal_int_int.l0 k l0 l1 (l0.length : Int) 0) else (some false)) = some r := h; clear h
 by_cases c3 : (l0.length : Int) = (l1.length : Int)
 ·rw [if_pos c3] at H; have af : ((l0.length : Int) == (l1.length : Int)) = true := beq_iff_eq.mpr c3; have ag : ((l0.length : Int) != (l1.length : Int)) = false := bne_eq_false_iff_eq.mpr c3
  have ah : (l0.length == l1.length) = true := by first | simpa using c3 | (simp at c3 ⊢; omega)
  clear c3; have H' := Aside0.mk H; clear H
  go_enter Try.func75, Try.ntmps75
  go_wp2
  repeat (go_quiet (fail); try go_wp2)
  go_loopg [13] k (fun kq al w' => ∃ (aa : Int), al = .int .i64 aa ∧ Aside0 (slices_Equal_int_int.l0 kq l0 l1 (l0.length : Int) aa = some r) ∧ Aside0 (kq ≤ k) ∧ Drawn0 w w')
  case atStart => exact ⟨(0), (by first | rfl | (simp; done) | (simp [*]; done) | (rw [Int.tmod_eq_emod_of_nonneg (Int.natCast_nonneg _)]; done)), H', ⟨Nat.le_refl _⟩, by repeat (first | exact Drawn0.refl _ | apply Drawn0.step)⟩
  case round =>
   clear H'
   try clear c1
   try clear p2
   try clear c3
   try clear af
   try clear ag
   try clear ah
   obtain ⟨aa, rfl, HA, HK1, ⟨m1, rfl⟩⟩ := hrel
   cases gk with
   | zero => exact absurd HA.out (by simp [slices_Equal_int_int.l0])
   | succ k1 =>
    have H := HA.out; clear HA; simp only [slices_Equal_int_int.l0] at H
    by_cases c4 : aa < (l0.length : Int)
    ·rw [if_pos c4] at H; have ai : decide (aa < (l0.length : Int)) = true := decide_eq_true c4; clear c4
     by_cases c5 : 0 ≤ aa
     ·rw [if_pos c5] at H; have am : decide (0 ≤ aa) = true := decide_eq_true c5; clear c5
      by_cases c6 : aa < (l0.length : Int)
      ·rw [if_pos c6] at H; have an : decide (aa < (l0.length : Int)) = true := decide_eq_true c6; clear c6
       by_cases c7 : aa < (l1.length : Int)
       ·rw [if_pos c7] at H; have ao : decide (aa < (l1.length : Int)) = true := decide_eq_true c7; clear c7
        by_cases c8 : (rd l0 aa) = (rd l1 aa)
        ·rw [if_pos c8] at H; have aj : ((rd l0 aa) == (rd l1 aa)) = true := beq_iff_eq.mpr c8; have ak : ((rd l0 aa) != (rd l1 aa)) = false := bne_eq_false_iff_eq.mpr c8; clear c8; have H' := Aside0.mk H; clear H; have ab : 0 ≤ (aa : Int) := of_decide_eq_true (by first | (with_reducible assumption) | assumption); have q223 : aa < (l0.length : Int) := of_decide_eq_true (by first | (with_reducible assumption) | assumption); obtain ⟨ad223, e223, ad⟩ := Kd.at_int HR0.out aa ab q223
         cases e223
         replace ab := eq_true ab; replace q223 := eq_true q223; have ac : 0 ≤ (aa : Int) := of_decide_eq_true (by first | (with_reducible assumption) | assumption); have q224 : aa < (l1.length : Int) := of_decide_eq_true (by first | (with_reducible assumption) | assumption); obtain ⟨ad224, e224, ae⟩ := Kd.at_int HR1.out aa ac q224
         cases e224
         replace ac := eq_true ac; replace q224 := eq_true q224
         go_wp2
         repeat (go_quiet (fail); try go_wp2)
         go_roundg k1
         case measure => have := HK1.out; omega
         case rel => exact ⟨(wrap64 (aa + 1)), (by first | rfl | (simp; done) | (simp [*]; done) | (rw [Int.tmod_eq_emod_of_nonneg (Int.natCast_nonneg _)]; done)), H', ⟨by have := HK1.out; omega⟩, by repeat (first | exact Drawn0.refl _ | apply Drawn0.step)⟩
        ·rw [if_neg c8] at H; have aj : ((rd l0 aa) == (rd l1 aa)) = false := beq_eq_false_iff_ne.mpr c8; have ak : ((rd l0 aa) != (rd l1 aa)) = true := bne_iff_ne.mpr c8; obtain rfl := Option.some.inj H; have ab : 0 ≤ (aa : Int) := of_decide_eq_true (by first | (with_reducible assumption) | assumption); have q223 : aa < (l0.length : Int) := of_decide_eq_true (by first | (with_reducible assumption) | assumption); obtain ⟨ad223, e223, ad⟩ := Kd.at_int HR0.out aa ab q223
         cases e223
         replace ab := eq_true ab; replace q223 := eq_true q223; have ac : 0 ≤ (aa : Int) := of_decide_eq_true (by first | (with_reducible assumption) | assumption); have q224 : aa < (l1.length : Int) := of_decide_eq_true (by first | (with_reducible assumption) | assumption); obtain ⟨ad224, e224, ae⟩ := Kd.at_int HR1.out aa ac q224
         cases e224
         replace ac := eq_true ac; replace q224 := eq_true q224
         go_wp2
         repeat (go_quiet (fail); try go_wp2)
         go_ret; exact ⟨by first | rfl | (simp; done) | (simp [*]; done), by repeat (first | exact Drawn0.refl _ | apply Drawn0.step)⟩
       ·rw [if_neg c7] at H; exact absurd H (by simp)
      ·rw [if_neg c6] at H; exact absurd H (by simp)
     ·rw [if_neg c5] at H; exact absurd H (by simp)
    ·rw [if_neg c4] at H; have ai : decide (aa < (l0.length : Int)) = false := decide_eq_false c4; clear c4; obtain rfl := Option.some.inj H
     go_wp2
     repeat (go_quiet (fail); try go_wp2)
     go_ret; exact ⟨by first | rfl | (simp; done) | (simp [*]; done), by repeat (first | exact Drawn0.refl _ | apply Drawn0.step)⟩
 ·rw [if_neg c3] at H; have af : ((l0.length : Int) == (l1.length : Int)) = false := beq_eq_false_iff_ne.mpr c3; have ag : ((l0.length : Int) != (l1.length : Int)) = true := bne_iff_ne.mpr c3
  have ah : (l0.length == l1.length) = false := by first | simpa using c3 | (simp at c3 ⊢; omega)
  obtain rfl := Option.some.inj H
  go_enter Try.func75, Try.ntmps75
  go_wp2
  repeat (go_quiet (fail); try go_wp2)
  go_ret; exact ⟨by first | rfl | (simp; done) | (simp [*]; done), by repeat (first | exact Drawn0.refl _ | apply Drawn0.step)⟩


/-! ### impl_period: function 67 -/
def impl_period.l0 : Nat → List Int → Int → Option (Int)
 | 0, _, _ => none
 | k + 1, x0, x3 => if x3 < (x0.length : Int) then (if x3 = 0 then (none) else (if ((x0.length : Int) % x3) = 0 then (if 0 ≤ x3 then (if x3 ≤ (x0.length : Int) then (if 0 ≤ (wrap64 ((x0.length : Int) - x3)) then (if (wrap64 ((x0.length : Int) - x3)) ≤ (x0.length : Int) then ((slices_Equal_int_int.f k (x0.drop (x3 : Int).toNat) (x0.take ((wrap64 ((x0.length : Int) - x3)) : Int).toNat)).bind fun t227 => (if t227 = true then (some x3) else (impl_period.l0 k x0 (wrap64 (x3 + 1))))) else (none)) else (none)) else (none)) else (none)) else (impl_period.l0 k x0 (wrap64 (x3 + 1))))) else (some (x0.length : Int))
def impl_period.f (k : Nat) (l0 : List Int) : Option (Int) := impl_period.l0 k l0 1
theorem impl_period.mono_l : ∀ k, (∀ y0 y1, LeO (impl_period.l0 k y0 y1) (impl_period.l0 (k + 1) y0 y1))
 | 0 => fun _ _ r h => by simp [impl_period.l0] at h
 | k + 1 => by
  have ih0 := impl_period.mono_l k
  ·intro y0 y1
   unfold impl_period.l0
   repeat' first
   | (with_reducible exact ih0 _ _)
   | (with_reducible exact slices_Equal_int_int.mono _ _ _)
   | (with_reducible exact LeO.refl _)
   | (with_reducible exact LeO.none _)
   | (with_reducible refine LeO.ite ?_ ?_)
   | (with_reducible refine LeO.bind ?_ (fun _ => ?_))
   | exact ih0 _ _
   | exact slices_Equal_int_int.mono _ _ _
   | exact LeO.none _
   | refine LeO.ite ?_ ?_
   | refine LeO.bind ?_ (fun _ => ?_)
theorem impl_period.mono : ∀ a0 k, LeO (impl_period.f k a0) (impl_period.f (k + 1) a0) := by
 intro a0 k
 have ih0 := impl_period.mono_l k
 unfold impl_period.f
 repeat' first
   | (with_reducible exact ih0 _ _)
   | (with_reducible exact slices_Equal_int_int.mono _ _ _)
   | (with_reducible exact LeO.refl _)
   | (with_reducible exact LeO.none _)
   | (with_reducible refine LeO.ite ?_ ?_)
   | (with_reducible refine LeO.bind ?_ (fun _ => ?_))
   | exact ih0 _ _
   | exact slices_Equal_int_int.mono _ _ _
   | exact LeO.none _
   | refine LeO.ite ?_ ?_
   | refine LeO.bind ?_ (fun _ => ?_)
open Go.Proofs.Ythkljpbddddhdaa.Short2 in
set_option maxHeartbeats 8000000 in
set_option maxRecDepth 100000 in
theorem impl_period.calls (k : Nat) (A0 : Option Addr) (c0 : Nat) (l0 : List Int) (r : Int) (w : World) (hr0 : Kd.C (Kd.int .i64) w A0 l0.length l0) (hc0 : l0.length ≤ c0) (h : impl_period.f k l0 = some r) :
  Calls Try.prog 67 #[.slice A0 l0.length c0] w fun e w' => e = .returned (.int .i64 r) ∧ Drawn0 w w' := by
 have HR0 := Aside0.mk hr0; have HC0 := Aside0.mk hc0; clear hr0 hc0; have H : (impl_period.l0 k l0 1) = some r := h; clear h; have H' := Aside0.mk H; clear H
 go_enter Try.func67, Try.ntmps67
 go_wp2
 repeat (go_quiet (fail); try go_wp2)
 go_loopg [3] k (fun kq v3 w' => ∃ (x3_1 : Int), v3 = .int .i64 x3_1 ∧ Aside0 (impl_period.l0 kq l0 x3_1 = some r) ∧ Aside0 (kq ≤ k) ∧ Drawn0 w w')
 case atStart => exact ⟨(1), (by first | rfl | (simp; done) | (simp [*]; done) | (rw [Int.tmod_eq_emod_of_nonneg (Int.natCast_nonneg _)]; done)), H', ⟨Nat.le_refl _⟩, by repeat (first | exact Drawn0.refl _ | apply Drawn0.step)⟩
 case round =>
  clear H'; obtain ⟨x3_1, rfl, HA, HK1, ⟨m1, rfl⟩⟩ := hrel
  cases gk with
  | zero => exact absurd HA.out (by simp [impl_period.l0])
  | succ k1 =>
   have H := HA.out; clear HA; simp only [impl_period.l0] at H
   by_cases c2 : x3_1 < (l0.length : Int)
   ·rw [if_pos c2] at H; have ai : decide (x3_1 < (l0.length : Int)) = true := decide_eq_true c2; clear c2
    by_cases c3 : x3_1 = 0
    ·rw [if_pos c3] at H; exact absurd H (by simp)
    ·rw [if_neg c3] at H; have aj : (x3_1 == 0) = false := beq_eq_false_iff_ne.mpr c3; have ak : (x3_1 != 0) = true := bne_iff_ne.mpr c3
     by_cases c4 : ((l0.length : Int) % x3_1) = 0
     ·rw [if_pos c4] at H; have ac : (((l0.length : Int) % x3_1) == 0) = true := beq_iff_eq.mpr c4
      have c4b0t : ((Int.tmod (l0.length : Int) x3_1) == 0) = true := by rw [Int.tmod_eq_emod_of_nonneg (by first | exact Int.natCast_nonneg _ | omega)]; exact ac
      have ad : (((l0.length : Int) % x3_1) != 0) = false := bne_eq_false_iff_eq.mpr c4
      have c4b1t : ((Int.tmod (l0.length : Int) x3_1) != 0) = false := by rw [Int.tmod_eq_emod_of_nonneg (by first | exact Int.natCast_nonneg _ | omega)]; exact ad
      clear c4
      by_cases c5 : 0 ≤ x3_1
      ·rw [if_pos c5] at H; have al := eq_true c5; have am : decide (0 ≤ x3_1) = true := decide_eq_true c5; clear c5
       by_cases c6 : x3_1 ≤ (l0.length : Int)
       ·rw [if_pos c6] at H; have an := eq_true c6; have ao : decide (x3_1 ≤ (l0.length : Int)) = true := decide_eq_true c6; clear c6; obtain ⟨ji7, hji7⟩ : ∃ j_ : Int, (wrap64 ((l0.length : Int) - x3_1)) = j_ := ⟨_, rfl⟩
        replace H : (if 0 ≤ (ji7) then (if (ji7) ≤ (l0.length : Int) then ((slices_Equal_int_int.f k1 (l0.drop (x3_1 : Int).toNat) (l0.take ((ji7) : Int).toNat)).bind fun ab => (if ab = true then (some x3_1) else (impl_period.l0 k1 l0 (wrap64 (x3_1 + 1))))) else (none)) else (none)) = some r := by first | (rw [hji7] at H; exact H) | (simp only [hji7] at H ⊢; exact H)
        have hji7w : (IntKind.i64.wrap ((l0.length : Int) - x3_1)) = ji7 := (i64_w _).trans hji7
        by_cases c8 : 0 ≤ (ji7)
        ·rw [if_pos c8] at H; have ap := eq_true c8; have aq : decide (0 ≤ (ji7)) = true := decide_eq_true c8; clear c8
         by_cases c9 : (ji7) ≤ (l0.length : Int)
         ·rw [if_pos c9] at H; have ar := eq_true c9; have au : decide ((ji7) ≤ (l0.length : Int)) = true := decide_eq_true c9; clear c9; replace H := Option.bind_eq_some_iff.mp H; obtain ⟨ab, af, H⟩ := H; replace H : (if ab = true then (some x3_1) else (impl_period.l0 k1 l0 (wrap64 (x3_1 + 1)))) = some r := H; have aa := Aside0.mk af; clear af
          by_cases ae : ab = true
          ·subst ae
           have H1 : (some x3_1) = some r := by rw [if_pos rfl] at H; exact H
           clear H; have H := H1; clear H1; obtain rfl := Option.some.inj H; obtain ⟨i012, hi012, _, hsz12, _⟩ := info_parts info3; obtain ⟨ag, hcut12, hA12, hC12⟩ := print_drop_of (P := Try.prog) (Value.int .i64) 0 22 3 .i64 Try.underlying22 hi012 hsz12 A0 c0 l0 x3_1 (of_decide_eq_true (by first | (with_reducible assumption) | assumption)) (of_decide_eq_true (by first | (with_reducible assumption) | assumption)) HC0.out; have HR225 := Aside0.mk (Kd.C_of_reads (h1 := fun _ => rfl) (hA12 _ (Kd.reads_of_C HR0.out))); have HC225 := Aside0.mk hC12; clear hA12 hC12 hi012 hsz12; obtain ⟨i013, hi013, _, hsz13, _⟩ := info_parts info3; obtain ⟨hcut13, hA13, hC13⟩ := print_take_of (P := Try.prog) (Value.int .i64) 0 22 3 .i64 Try.underlying22 hi013 hsz13 A0 c0 l0 (ji7) (of_decide_eq_true (by first | (with_reducible assumption) | assumption)) (of_decide_eq_true (by first | (with_reducible assumption) | assumption)) HC0.out; have HR226 := Aside0.mk (Kd.C_of_reads (h1 := fun _ => rfl) (hA13 _ (Kd.reads_of_C HR0.out))); have HC226 := Aside0.mk hC13; clear hA13 hC13 hi013 hsz13
           go_wp2_with (first | (go_at_call 75; refine calls_of_args (args' := #[.slice ag (l0.drop (x3_1 : Int).toNat).length (c0 - x3_1.toNat), .slice A0 (l0.take ((ji7) : Int).toNat).length c0]) (by first | (rw [show (l0.drop (x3_1 : Int).toNat).length = (l0.length - x3_1.toNat) from List.length_drop, show (l0.take ((ji7) : Int).toNat).length = (ji7).toNat from (by rw [List.length_take]; have h_ : ((ji7) : Int) ≤ (l0.length : Int) := of_decide_eq_true (by first | (with_reducible assumption) | assumption); omega)] <;> rfl) | (rw [show (l0.drop (x3_1 : Int).toNat).length = (l0.length - x3_1.toNat) from List.length_drop] <;> rfl) | (rw [show (l0.take ((ji7) : Int).toNat).length = (ji7).toNat from (by rw [List.length_take]; have h_ : ((ji7) : Int) ≤ (l0.length : Int) := of_decide_eq_true (by first | (with_reducible assumption) | assumption); omega)] <;> rfl) | rfl) ?_; (with_reducible refine (slices_Equal_int_int.calls k1 _ _ (l0.drop (x3_1 : Int).toNat) _ _ (l0.take ((ji7) : Int).toNat) true _ ?side1 ?side2 ?side3 ?side4 aa.out).mono ?_); (case side1 => repeat (first | exact HR225.out | (with_reducible refine Kd.C_alloc ?_ _) | (with_reducible refine Kd.C_drewN ?_ _) | (with_reducible refine Kd.C_drew ?_))); (case side2 => exact HC225.out); (case side3 => repeat (first | exact HR226.out | (with_reducible refine Kd.C_alloc ?_ _) | (with_reducible refine Kd.C_drewN ?_ _) | (with_reducible refine Kd.C_drew ?_))); (case side4 => exact HC226.out); rintro e w' ⟨rfl, ⟨nd, rfl⟩⟩; (try first | exact ⟨rfl, _, World.drewN_drewN _ _ _⟩ | exact ⟨rfl, _, Eq.trans (World.drewN_drewN _ _ _) (congrArg (World.drewN _) (Nat.add_assoc _ _ _))⟩)))
           repeat (go_quiet (first | (go_at_call 75; refine calls_of_args (args' := #[.slice ag (l0.drop (x3_1 : Int).toNat).length (c0 - x3_1.toNat), .slice A0 (l0.take ((ji7) : Int).toNat).length c0]) (by first | (rw [show (l0.drop (x3_1 : Int).toNat).length = (l0.length - x3_1.toNat) from List.length_drop, show (l0.take ((ji7) : Int).toNat).length = (ji7).toNat from (by rw [List.length_take]; have h_ : ((ji7) : Int) ≤ (l0.length : Int) := of_decide_eq_true (by first | (with_reducible assumption) | assumption); omega)] <;> rfl) | (rw [show (l0.drop (x3_1 : Int).toNat).length = (l0.length - x3_1.toNat) from List.length_drop] <;> rfl) | (rw [show (l0.take ((ji7) : Int).toNat).length = (ji7).toNat from (by rw [List.length_take]; have h_ : ((ji7) : Int) ≤ (l0.length : Int) := of_decide_eq_true (by first | (with_reducible assumption) | assumption); omega)] <;> rfl) | rfl) ?_; (with_reducible refine (slices_Equal_int_int.calls k1 _ _ (l0.drop (x3_1 : Int).toNat) _ _ (l0.take ((ji7) : Int).toNat) true _ ?side1 ?side2 ?side3 ?side4 aa.out).mono ?_); (case side1 => repeat (first | exact HR225.out | (with_reducible refine Kd.C_alloc ?_ _) | (with_reducible refine Kd.C_drewN ?_ _) | (with_reducible refine Kd.C_drew ?_))); (case side2 => exact HC225.out); (case side3 => repeat (first | exact HR226.out | (with_reducible refine Kd.C_alloc ?_ _) | (with_reducible refine Kd.C_drewN ?_ _) | (with_reducible refine Kd.C_drew ?_))); (case side4 => exact HC226.out); rintro e w' ⟨rfl, ⟨nd, rfl⟩⟩; (try first | exact ⟨rfl, _, World.drewN_drewN _ _ _⟩ | exact ⟨rfl, _, Eq.trans (World.drewN_drewN _ _ _) (congrArg (World.drewN _) (Nat.add_assoc _ _ _))⟩))); try go_wp2_with (first | (go_at_call 75; refine calls_of_args (args' := #[.slice ag (l0.drop (x3_1 : Int).toNat).length (c0 - x3_1.toNat), .slice A0 (l0.take ((ji7) : Int).toNat).length c0]) (by first | (rw [show (l0.drop (x3_1 : Int).toNat).length = (l0.length - x3_1.toNat) from List.length_drop, show (l0.take ((ji7) : Int).toNat).length = (ji7).toNat from (by rw [List.length_take]; have h_ : ((ji7) : Int) ≤ (l0.length : Int) := of_decide_eq_true (by first | (with_reducible assumption) | assumption); omega)] <;> rfl) | (rw [show (l0.drop (x3_1 : Int).toNat).length = (l0.length - x3_1.toNat) from List.length_drop] <;> rfl) | (rw [show (l0.take ((ji7) : Int).toNat).length = (ji7).toNat from (by rw [List.length_take]; have h_ : ((ji7) : Int) ≤ (l0.length : Int) := of_decide_eq_true (by first | (with_reducible assumption) | assumption); omega)] <;> rfl) | rfl) ?_; (with_reducible refine (slices_Equal_int_int.calls k1 _ _ (l0.drop (x3_1 : Int).toNat) _ _ (l0.take ((ji7) : Int).toNat) true _ ?side1 ?side2 ?side3 ?side4 aa.out).mono ?_); (case side1 => repeat (first | exact HR225.out | (with_reducible refine Kd.C_alloc ?_ _) | (with_reducible refine Kd.C_drewN ?_ _) | (with_reducible refine Kd.C_drew ?_))); (case side2 => exact HC225.out); (case side3 => repeat (first | exact HR226.out | (with_reducible refine Kd.C_alloc ?_ _) | (with_reducible refine Kd.C_drewN ?_ _) | (with_reducible refine Kd.C_drew ?_))); (case side4 => exact HC226.out); rintro e w' ⟨rfl, ⟨nd, rfl⟩⟩; (try first | exact ⟨rfl, _, World.drewN_drewN _ _ _⟩ | exact ⟨rfl, _, Eq.trans (World.drewN_drewN _ _ _) (congrArg (World.drewN _) (Nat.add_assoc _ _ _))⟩))))
           go_ret; exact ⟨by first | rfl | (simp; done) | (simp only [← hji7] <;> (first | rfl | simp)) | (simp [*]; done), by repeat (first | exact Drawn0.refl _ | apply Drawn0.step)⟩
          ·replace ae := Bool.eq_false_iff.mpr ae; subst ae
           have H1 : (impl_period.l0 k1 l0 (wrap64 (x3_1 + 1))) = some r := by rw [if_neg (show ¬ (false = true) by decide)] at H; exact H
           clear H; have H := H1; clear H1; have H' := Aside0.mk H; clear H; obtain ⟨i014, hi014, _, hsz14, _⟩ := info_parts info3; obtain ⟨ah, hcut14, hA14, hC14⟩ := print_drop_of (P := Try.prog) (Value.int .i64) 0 22 3 .i64 Try.underlying22 hi014 hsz14 A0 c0 l0 x3_1 (of_decide_eq_true (by first | (with_reducible assumption) | assumption)) (of_decide_eq_true (by first | (with_reducible assumption) | assumption)) HC0.out; have HR225 := Aside0.mk (Kd.C_of_reads (h1 := fun _ => rfl) (hA14 _ (Kd.reads_of_C HR0.out))); have HC225 := Aside0.mk hC14; clear hA14 hC14 hi014 hsz14; obtain ⟨i015, hi015, _, hsz15, _⟩ := info_parts info3; obtain ⟨hcut15, hA15, hC15⟩ := print_take_of (P := Try.prog) (Value.int .i64) 0 22 3 .i64 Try.underlying22 hi015 hsz15 A0 c0 l0 (ji7) (of_decide_eq_true (by first | (with_reducible assumption) | assumption)) (of_decide_eq_true (by first | (with_reducible assumption) | assumption)) HC0.out; have HR226 := Aside0.mk (Kd.C_of_reads (h1 := fun _ => rfl) (hA15 _ (Kd.reads_of_C HR0.out))); have HC226 := Aside0.mk hC15; clear hA15 hC15 hi015 hsz15
           go_wp2_with (first | (go_at_call 75; refine calls_of_args (args' := #[.slice ah (l0.drop (x3_1 : Int).toNat).length (c0 - x3_1.toNat), .slice A0 (l0.take ((ji7) : Int).toNat).length c0]) (by first | (rw [show (l0.drop (x3_1 : Int).toNat).length = (l0.length - x3_1.toNat) from List.length_drop, show (l0.take ((ji7) : Int).toNat).length = (ji7).toNat from (by rw [List.length_take]; have h_ : ((ji7) : Int) ≤ (l0.length : Int) := of_decide_eq_true (by first | (with_reducible assumption) | assumption); omega)] <;> rfl) | (rw [show (l0.drop (x3_1 : Int).toNat).length = (l0.length - x3_1.toNat) from List.length_drop] <;> rfl) | (rw [show (l0.take ((ji7) : Int).toNat).length = (ji7).toNat from (by rw [List.length_take]; have h_ : ((ji7) : Int) ≤ (l0.length : Int) := of_decide_eq_true (by first | (with_reducible assumption) | assumption); omega)] <;> rfl) | rfl) ?_; (with_reducible refine (slices_Equal_int_int.calls k1 _ _ (l0.drop (x3_1 : Int).toNat) _ _ (l0.take ((ji7) : Int).toNat) false _ ?side1 ?side2 ?side3 ?side4 aa.out).mono ?_); (case side1 => repeat (first | exact HR225.out | (with_reducible refine Kd.C_alloc ?_ _) | (with_reducible refine Kd.C_drewN ?_ _) | (with_reducible refine Kd.C_drew ?_))); (case side2 => exact HC225.out); (case side3 => repeat (first | exact HR226.out | (with_reducible refine Kd.C_alloc ?_ _) | (with_reducible refine Kd.C_drewN ?_ _) | (with_reducible refine Kd.C_drew ?_))); (case side4 => exact HC226.out); rintro e w' ⟨rfl, ⟨nd, rfl⟩⟩; (try first | exact ⟨rfl, _, World.drewN_drewN _ _ _⟩ | exact ⟨rfl, _, Eq.trans (World.drewN_drewN _ _ _) (congrArg (World.drewN _) (Nat.add_assoc _ _ _))⟩)))
           repeat (go_quiet (first | (go_at_call 75; refine calls_of_args (args' := #[.slice ah (l0.drop (x3_1 : Int).toNat).length (c0 - x3_1.toNat), .slice A0 (l0.take ((ji7) : Int).toNat).length c0]) (by first | (rw [show (l0.drop (x3_1 : Int).toNat).length = (l0.length - x3_1.toNat) from List.length_drop, show (l0.take ((ji7) : Int).toNat).length = (ji7).toNat from (by rw [List.length_take]; have h_ : ((ji7) : Int) ≤ (l0.length : Int) := of_decide_eq_true (by first | (with_reducible assumption) | assumption); omega)] <;> rfl) | (rw [show (l0.drop (x3_1 : Int).toNat).length = (l0.length - x3_1.toNat) from List.length_drop] <;> rfl) | (rw [show (l0.take ((ji7) : Int).toNat).length = (ji7).toNat from (by rw [List.length_take]; have h_ : ((ji7) : Int) ≤ (l0.length : Int) := of_decide_eq_true (by first | (with_reducible assumption) | assumption); omega)] <;> rfl) | rfl) ?_; (with_reducible refine (slices_Equal_int_int.calls k1 _ _ (l0.drop (x3_1 : Int).toNat) _ _ (l0.take ((ji7) : Int).toNat) false _ ?side1 ?side2 ?side3 ?side4 aa.out).mono ?_); (case side1 => repeat (first | exact HR225.out | (with_reducible refine Kd.C_alloc ?_ _) | (with_reducible refine Kd.C_drewN ?_ _) | (with_reducible refine Kd.C_drew ?_))); (case side2 => exact HC225.out); (case side3 => repeat (first | exact HR226.out | (with_reducible refine Kd.C_alloc ?_ _) | (with_reducible refine Kd.C_drewN ?_ _) | (with_reducible refine Kd.C_drew ?_))); (case side4 => exact HC226.out); rintro e w' ⟨rfl, ⟨nd, rfl⟩⟩; (try first | exact ⟨rfl, _, World.drewN_drewN _ _ _⟩ | exact ⟨rfl, _, Eq.trans (World.drewN_drewN _ _ _) (congrArg (World.drewN _) (Nat.add_assoc _ _ _))⟩))); try go_wp2_with (first | (go_at_call 75; refine calls_of_args (args' := #[.slice ah (l0.drop (x3_1 : Int).toNat).length (c0 - x3_1.toNat), .slice A0 (l0.take ((ji7) : Int).toNat).length c0]) (by first | (rw [show (l0.drop (x3_1 : Int).toNat).length = (l0.length - x3_1.toNat) from List.length_drop, show (l0.take ((ji7) : Int).toNat).length = (ji7).toNat from (by rw [List.length_take]; have h_ : ((ji7) : Int) ≤ (l0.length : Int) := of_decide_eq_true (by first | (with_reducible assumption) | assumption); omega)] <;> rfl) | (rw [show (l0.drop (x3_1 : Int).toNat).length = (l0.length - x3_1.toNat) from List.length_drop] <;> rfl) | (rw [show (l0.take ((ji7) : Int).toNat).length = (ji7).toNat from (by rw [List.length_take]; have h_ : ((ji7) : Int) ≤ (l0.length : Int) := of_decide_eq_true (by first | (with_reducible assumption) | assumption); omega)] <;> rfl) | rfl) ?_; (with_reducible refine (slices_Equal_int_int.calls k1 _ _ (l0.drop (x3_1 : Int).toNat) _ _ (l0.take ((ji7) : Int).toNat) false _ ?side1 ?side2 ?side3 ?side4 aa.out).mono ?_); (case side1 => repeat (first | exact HR225.out | (with_reducible refine Kd.C_alloc ?_ _) | (with_reducible refine Kd.C_drewN ?_ _) | (with_reducible refine Kd.C_drew ?_))); (case side2 => exact HC225.out); (case side3 => repeat (first | exact HR226.out | (with_reducible refine Kd.C_alloc ?_ _) | (with_reducible refine Kd.C_drewN ?_ _) | (with_reducible refine Kd.C_drew ?_))); (case side4 => exact HC226.out); rintro e w' ⟨rfl, ⟨nd, rfl⟩⟩; (try first | exact ⟨rfl, _, World.drewN_drewN _ _ _⟩ | exact ⟨rfl, _, Eq.trans (World.drewN_drewN _ _ _) (congrArg (World.drewN _) (Nat.add_assoc _ _ _))⟩))))
           (first | go_roundg k1 | ((try simp only [← hji7]); go_roundg k1))
           case measure => have := HK1.out; omega
           case rel => exact ⟨(wrap64 (x3_1 + 1)), (by first | rfl | (simp; done) | (simp [*]; done) | (rw [Int.tmod_eq_emod_of_nonneg (Int.natCast_nonneg _)]; done)), (by first | exact H' | (have h_ := H'; (try simp only [← hji7] at h_); (try simp only [← hji7]); exact h_)), ⟨by have := HK1.out; omega⟩, by repeat (first | exact Drawn0.refl _ | apply Drawn0.step)⟩
         ·rw [if_neg c9] at H; exact absurd H (by simp)
        ·rw [if_neg c8] at H; exact absurd H (by simp)
       ·rw [if_neg c6] at H; exact absurd H (by simp)
      ·rw [if_neg c5] at H; exact absurd H (by simp)
     ·rw [if_neg c4] at H; have ac : (((l0.length : Int) % x3_1) == 0) = false := beq_eq_false_iff_ne.mpr c4
      have c4b0t : ((Int.tmod (l0.length : Int) x3_1) == 0) = false := by rw [Int.tmod_eq_emod_of_nonneg (by first | exact Int.natCast_nonneg _ | omega)]; exact ac
      have ad : (((l0.length : Int) % x3_1) != 0) = true := bne_iff_ne.mpr c4
      have c4b1t : ((Int.tmod (l0.length : Int) x3_1) != 0) = true := by rw [Int.tmod_eq_emod_of_nonneg (by first | exact Int.natCast_nonneg _ | omega)]; exact ad
      have H' := Aside0.mk H; clear H
      go_wp2
      repeat (go_quiet (fail); try go_wp2)
      go_roundg k1
      case measure => have := HK1.out; omega
      case rel => exact ⟨(wrap64 (x3_1 + 1)), (by first | rfl | (simp; done) | (simp [*]; done) | (rw [Int.tmod_eq_emod_of_nonneg (Int.natCast_nonneg _)]; done)), H', ⟨by have := HK1.out; omega⟩, by repeat (first | exact Drawn0.refl _ | apply Drawn0.step)⟩
   ·rw [if_neg c2] at H; have ai : decide (x3_1 < (l0.length : Int)) = false := decide_eq_false c2; clear c2; obtain rfl := Option.some.inj H
    go_wp2
    repeat (go_quiet (fail); try go_wp2)
    go_ret; exact ⟨by first | rfl | (simp; done) | (simp [*]; done), by repeat (first | exact Drawn0.refl _ | apply Drawn0.step)⟩

section
open Go.Proofs.Ythkljpbddddhdaa.Short2.T
abbrev impl_WordCanon.bl0 : Array Bool := #[f, f, f, f, f, f, f, f]
abbrev impl_WordCanon.bl1 : Array Bool := #[t, f, f, f, f, f, f, f]
abbrev impl_WordCanon.bl2 : Array Bool := #[t, f, t, f, f, f, f, f]
abbrev impl_WordCanon.bl3 : Array Bool := #[t, t, t, f, f, f, f, f]
abbrev impl_WordCanon.bl4 : Array Bool := #[t, t, t, t, f, f, f, f]
abbrev impl_WordCanon.bl5 : Array Bool := #[t, t, t, t, t, f, f, f]
abbrev impl_WordCanon.bl6 : Array Bool := #[t, t, t, t, t, t, f, f]
abbrev impl_WordCanon.bl7 : Array Bool := #[t, t, t, t, t, t, t, f]
abbrev impl_WordCanon.bl8 : Array Bool := #[t, t, t, t, t, t, t, t]
abbrev impl_WordCanon.bl9 : Array Bool := #[f, f, f, f, f, f, f, f, f, f, f, f, f, f, f, f]
abbrev impl_WordCanon.bl10 : Array Bool := #[t, f, f, f, f, f, f, f, f, f, f, f, f, f, f, f]
abbrev impl_WordCanon.bl11 : Array Bool := #[t, t, f, f, f, f, f, f, f, f, f, f, f, f, f, f]
abbrev impl_WordCanon.bl12 : Array Bool := #[t, t, t, f, f, f, f, f, f, f, f, f, f, f, f, f]
abbrev impl_WordCanon.bl13 : Array Bool := #[t, t, t, t, f, f, f, f, f, f, f, f, f, f, f, f]
abbrev impl_WordCanon.bl14 : Array Bool := #[t, t, t, t, t, f, f, f, f, f, f, f, f, f, f, f]
abbrev impl_WordCanon.bl15 : Array Bool := #[t, t, t, t, t, t, f, f, f, f, f, f, f, f, f, f]
abbrev impl_WordCanon.bl16 : Array Bool := #[t, t, t, t, t, t, t, f, f, f, f, f, f, f, f, f]
abbrev impl_WordCanon.bl17 : Array Bool := #[t, t, t, t, t, t, t, t, f, f, f, f, f, f, f, f]
abbrev impl_WordCanon.bl18 : Array Bool := #[t, t, t, t, t, t, t, t, t, f, f, f, f, f, f, f]
abbrev impl_WordCanon.bl19 : Array Bool := #[t, t, t, t, t, t, t, t, t, f, t, f, f, f, f, f]
abbrev impl_WordCanon.bl20 : Array Bool := #[t, t, t, t, t, t, t, t, t, f, t, t, f, f, f, f]
abbrev impl_WordCanon.bl21 : Array Bool := #[t, t, t, t, t, t, t, t, t, f, t, t, t, f, f, f]
abbrev impl_WordCanon.bl22 : Array Bool := #[t, t, t, t, t, t, t, t, t, t, t, t, t, f, f, f]
abbrev impl_WordCanon.bl23 : Array Bool := #[t, t, t, t, t, t, t, t, t, t, t, t, t, t, f, f]
abbrev impl_WordCanon.bl24 : Array Bool := #[t, t, t, t, t, t, t, t, t, t, t, t, t, t, t, f]
abbrev impl_WordCanon.bl25 : Array Bool := #[t, t, t, t, t, t, t, t, t, t, t, t, t, t, t, t]
abbrev impl_WordCanon.bl26 : Array Bool := #[f, f, f, f, f, f, f, f, f]
abbrev impl_WordCanon.bl27 : Array Bool := #[t, f, f, f, f, f, f, f, f]
abbrev impl_WordCanon.bl28 : Array Bool := #[t, t, f, f, f, f, f, f, f]
abbrev impl_WordCanon.bl29 : Array Bool := #[t, t, t, f, f, f, f, f, f]
abbrev impl_WordCanon.bl30 : Array Bool := #[t, t, t, t, f, f, f, f, f]
abbrev impl_WordCanon.bl31 : Array Bool := #[t, t, t, t, t, f, f, f, f]
abbrev impl_WordCanon.bl32 : Array Bool := #[t, t, t, t, t, t, f, f, f]
abbrev impl_WordCanon.bl33 : Array Bool := #[t, t, t, t, t, t, t, f, f]
abbrev impl_WordCanon.bl34 : Array Bool := #[t, t, t, t, t, t, t, t, f]
abbrev impl_WordCanon.bl35 : Array Bool := #[t, t, t, t, t, t, t, t, t]
abbrev impl_WordCanon.bl36 : Array Bool := #[t, t, t, t, t, t, t, t, t, t, f, f, f, f, f, f]
abbrev impl_WordCanon.bl37 : Array Bool := #[t, t, t, t, t, t, t, t, t, t, t, f, f, f, f, f]
abbrev impl_WordCanon.bl38 : Array Bool := #[t, t, t, t, t, t, t, t, t, t, t, t, f, f, f, f]
end
/-! ### impl_WordCanon: function 41 -/
def impl_WordCanon.l0 : Nat → List Int → List Int → Int → Option (List Int × List Int)
 | 0, _, _, _ => none
 | k + 1, x3, x4, x5 => if (x3.length : Int) > 0 then (if 0 ≤ (wrap64 ((x3.length : Int) - 1)) then (if (wrap64 ((x3.length : Int) - 1)) < (x3.length : Int) then (if 0 ≤ x5 then (if x5 < (x4.length : Int) then (if (rd x3 (wrap64 ((x3.length : Int) - 1))) = (rd x4 x5) then (if (wrap64 ((x3.length : Int) - 1)) ≤ (x3.length : Int) then (if x5 ≤ (x4.length : Int) then ((slices_Concat_int_int.f k (([(x4.drop (x5 : Int).toNat), (x4.take (x5 : Int).toNat)] : List (List Int)))).bind fun t257 => (impl_WordCanon.l0 k (x3.take ((wrap64 ((x3.length : Int) - 1)) : Int).toNat) t257 x5)) else (none)) else (none)) else (some (x3, x4))) else (none)) else (none)) else (none)) else (none)) else (some (x3, x4))
def impl_WordCanon.f (k : Nat) (l0_0 : List Int) (l0_1 : List Int) : Option (List Int × List Int) := (impl_isRight.f k l0_0 l0_1).bind fun t230 => (if t230 = true then ((slices_Clone_int_int.f l0_0).bind fun t231 => ((impl_period.f k l0_1).bind fun t234 => (if 0 ≤ t234 then (if t234 ≤ (l0_1.length : Int) then ((slices_Clone_int_int.f (l0_1.take (t234 : Int).toNat)).bind fun t236 => (impl_WordCanon.l0 k t231 t236 (wrap64 ((t236.length : Int) - 1)))) else (none)) else (none)))) else (some (([] : List Int), ([] : List Int))))
theorem impl_WordCanon.mono_l : ∀ k, (∀ y0 y1 y2, LeO (impl_WordCanon.l0 k y0 y1 y2) (impl_WordCanon.l0 (k + 1) y0 y1 y2))
 | 0 => fun _ _ _ r h => by simp [impl_WordCanon.l0] at h
 | k + 1 => by
  have ih0 := impl_WordCanon.mono_l k
  ·intro y0 y1 y2
   unfold impl_WordCanon.l0
   repeat' first
   | (with_reducible exact ih0 _ _ _)
   | (with_reducible exact impl_isRight.mono _ _ _)
   | (with_reducible exact impl_period.mono _ _)
   | (with_reducible exact slices_Concat_int_int.mono _ _)
   | (with_reducible exact LeO.refl _)
   | (with_reducible exact LeO.none _)
   | (with_reducible refine LeO.ite ?_ ?_)
   | (with_reducible refine LeO.bind ?_ (fun _ => ?_))
   | exact ih0 _ _ _
   | exact impl_isRight.mono _ _ _
   | exact impl_period.mono _ _
   | exact slices_Concat_int_int.mono _ _
   | exact LeO.none _
   | refine LeO.ite ?_ ?_
   | refine LeO.bind ?_ (fun _ => ?_)
theorem impl_WordCanon.mono : ∀ a0 a1 k, LeO (impl_WordCanon.f k a0 a1) (impl_WordCanon.f (k + 1) a0 a1) := by
 intro a0 a1 k
 have ih0 := impl_WordCanon.mono_l k
 unfold impl_WordCanon.f
 repeat' first
   | (with_reducible exact ih0 _ _ _)
   | (with_reducible exact impl_isRight.mono _ _ _)
   | (with_reducible exact impl_period.mono _ _)
   | (with_reducible exact slices_Concat_int_int.mono _ _)
   | (with_reducible exact LeO.refl _)
   | (with_reducible exact LeO.none _)
   | (with_reducible refine LeO.ite ?_ ?_)
   | (with_reducible refine LeO.bind ?_ (fun _ => ?_))
   | exact ih0 _ _ _
   | exact impl_isRight.mono _ _ _
   | exact impl_period.mono _ _
   | exact slices_Concat_int_int.mono _ _
   | exact LeO.none _
   | refine LeO.ite ?_ ?_
   | refine LeO.bind ?_ (fun _ => ?_)
def impl_WordCanon.T4 : Bool × List (List Nat × List Nat) := (true, [([], []), ([0], [0]), ([], []), ([2], [2]), ([3], [3]), ([1, 4], [1, 4]), ([5, 4], [5]), ([6, 6, 0, 1, 2, 3, 4, 5, 6], [6])])
def impl_WordCanon.B4 : List Nat := [0, 1, 0, 4, 12, 31, 63, 127]
theorem impl_WordCanon.tab4 : rtab .any (opsOf Try.f41 4) = impl_WordCanon.T4 := by kernel_rfl
theorem impl_WordCanon.bits4 : waitsOk impl_WordCanon.T4.2 impl_WordCanon.B4 = true := by kernel_rfl
def impl_WordCanon.T6 : Bool × List (List Nat × List Nat) := (true, [([], []), ([0], [0]), ([1], [1]), ([2], [2]), ([3], [3]), ([3], [3]), ([5, 3], [3, 5]), ([6, 3], [3, 6]), ([4, 7, 3], [3, 4, 7]), ([8, 3], [3, 8]), ([3], [3]), ([3], [3]), ([10, 11, 3], [3, 10, 11]), ([12, 3], [3, 12]), ([9, 13, 3], [3, 9, 13]), ([3, 14], [3, 14])])
def impl_WordCanon.B6 : List Nat := [0, 1, 3, 7, 15, 15, 47, 111, 255, 511, 15, 15, 3087, 7183, 16383, 32767]
theorem impl_WordCanon.tab6 : rtab .any (opsOf Try.f41 6) = impl_WordCanon.T6 := by kernel_rfl
theorem impl_WordCanon.bits6 : waitsOk impl_WordCanon.T6.2 impl_WordCanon.B6 = true := by kernel_rfl
def impl_WordCanon.T8 : Bool × List (List Nat × List Nat) := (true, [([], []), ([], []), ([0, 1], [0, 1]), ([], []), ([], []), ([3, 4], [3, 4]), ([2, 5], [2, 5]), ([6], [6]), ([7, 7, 0, 1, 2, 3, 4, 5, 6, 7], [0, 3, 7])])
def impl_WordCanon.B8 : List Nat := [0, 0, 3, 0, 0, 24, 63, 127, 255]
theorem impl_WordCanon.tab8 : rtab .any (opsOf Try.f41 8) = impl_WordCanon.T8 := by kernel_rfl
theorem impl_WordCanon.bits8 : waitsOk impl_WordCanon.T8.2 impl_WordCanon.B8 = true := by kernel_rfl
open Go.Proofs.Ythkljpbddddhdaa.Short2 in
set_option maxHeartbeats 8000000 in
set_option maxRecDepth 100000 in
theorem impl_WordCanon.calls (k : Nat) (A0_0 : Option Addr) (c0_0 : Nat) (l0_0 : List Int) (A0_1 : Option Addr) (c0_1 : Nat) (l0_1 : List Int) (r1 : List Int) (r2 : List Int) (w : World) (hr0_0 : Kd.C (Kd.int .i64) w A0_0 l0_0.length l0_0) (hc0_0 : l0_0.length ≤ c0_0) (hr0_1 : Kd.C (Kd.int .i64) w A0_1 l0_1.length l0_1) (hc0_1 : l0_1.length ≤ c0_1) (h : impl_WordCanon.f k l0_0 l0_1 = some (r1, r2)) :
  Calls Try.prog 41 #[.agg #[.slice A0_0 l0_0.length c0_0, .slice A0_1 l0_1.length c0_1]] w fun e w' => ∃ v0_ v1_ : Value, e = .returned (.agg #[v0_, v1_]) ∧ Kd.R (Kd.int .i64) 3 w' w.heap.size (fun k_ => some k_ ≠ (v1_ : Value).ownBlock) v0_ r1 ∧ Kd.R (Kd.int .i64) 3 w' w.heap.size (fun k_ => some k_ ≠ (v0_ : Value).ownBlock) v1_ r2 ∧ Below w.heap.size w w' := by
 have hu27 := Try.underlying27; have HR0_0 := Aside0.mk hr0_0; have HC0_0 := Aside0.mk hc0_0; clear hr0_0 hc0_0; have HR0_1 := Aside0.mk hr0_1; have HC0_1 := Aside0.mk hc0_1; clear hr0_1 hc0_1; have HB := Aside0.mk (Below.refl w.heap.size w); have H : ((impl_isRight.f k l0_0 l0_1).bind fun aL => (if aL = true then ((slices_Clone_int_int.f l0_0).bind fun ao => ((impl_period.f k l0_1).bind fun ad => (if 0 ≤ ad then (if ad ≤ (l0_1.length : Int) then ((slices_Clone_int_int.f (l0_1.take (ad : Int).toNat)).bind fun ae => (impl_WordCanon.l0 k ao ae (wrap64 ((ae.length : Int) - 1)))) else (none)) else (none)))) else (some (([] : List Int), ([] : List Int))))) = some (r1, r2) := h; clear h; replace H := Option.bind_eq_some_iff.mp H; obtain ⟨aL, bF, H⟩ := H; replace H : (if aL = true then ((slices_Clone_int_int.f l0_0).bind fun ao => ((impl_period.f k l0_1).bind fun ad => (if 0 ≤ ad then (if ad ≤ (l0_1.length : Int) then ((slices_Clone_int_int.f (l0_1.take (ad : Int).toNat)).bind fun ae => (impl_WordCanon.l0 k ao ae (wrap64 ((ae.length : Int) - 1)))) else (none)) else (none)))) else (some (([] : List Int), ([] : List Int)))) = some (r1, r2) := H; have A2 := Aside0.mk bF; clear bF
 by_cases c3 : aL = true
 ·subst c3
  have H1 : ((slices_Clone_int_int.f l0_0).bind fun ao => ((impl_period.f k l0_1).bind fun ad => (if 0 ≤ ad then (if ad ≤ (l0_1.length : Int) then ((slices_Clone_int_int.f (l0_1.take (ad : Int).toNat)).bind fun ae => (impl_WordCanon.l0 k ao ae (wrap64 ((ae.length : Int) - 1)))) else (none)) else (none)))) = some (r1, r2) := by rw [if_pos rfl] at H; exact H
  clear H; have H := H1; clear H1; replace H := Option.bind_eq_some_iff.mp H; obtain ⟨ao, bG, H⟩ := H; replace H : ((impl_period.f k l0_1).bind fun ad => (if 0 ≤ ad then (if ad ≤ (l0_1.length : Int) then ((slices_Clone_int_int.f (l0_1.take (ad : Int).toNat)).bind fun ae => (impl_WordCanon.l0 k ao ae (wrap64 ((ae.length : Int) - 1)))) else (none)) else (none))) = some (r1, r2) := H; have A4 := Aside0.mk bG; clear bG; replace H := Option.bind_eq_some_iff.mp H; obtain ⟨ad, bH, H⟩ := H; replace H : (if 0 ≤ ad then (if ad ≤ (l0_1.length : Int) then ((slices_Clone_int_int.f (l0_1.take (ad : Int).toNat)).bind fun ae => (impl_WordCanon.l0 k ao ae (wrap64 ((ae.length : Int) - 1)))) else (none)) else (none)) = some (r1, r2) := H; have A5 := Aside0.mk bH; clear bH
  by_cases c6 : 0 ≤ ad
  ·rw [if_pos c6] at H; have bP := eq_true c6; have bQ : decide (0 ≤ ad) = true := decide_eq_true c6; clear c6
   by_cases c7 : ad ≤ (l0_1.length : Int)
   ·rw [if_pos c7] at H; have bR := eq_true c7; have bS : decide (ad ≤ (l0_1.length : Int)) = true := decide_eq_true c7; clear c7; replace H := Option.bind_eq_some_iff.mp H; obtain ⟨ae, bI, H⟩ := H; replace H : (impl_WordCanon.l0 k ao ae (wrap64 ((ae.length : Int) - 1))) = some (r1, r2) := H; have A8 := Aside0.mk bI; clear bI; have H' := Aside0.mk H; clear H
    go_enter Try.func41, Try.ntmps41
    try go_wp2_with (first | ((with_reducible refine gate_dst (N := 1) rfl ?_); (try (refine gate_guard (by rfl) ?_; dsimp only)); refine box_event ?hg (N := 1) ?hd (cs := #[.slice A0_0 l0_0.length c0_0, .slice A0_1 l0_1.length c0_1]) (t := 27) ?hr ?_; (case hd => rfl); (case hg => rfl); (case hr => first | (go_simp; done) | (go_simp; rfl)); intro ag hg w9 hbox hb; have aa := Aside0.mk (hbox); have bx := xG HB hg; have aG := xG HB hg; replace HB := xS HB hb; clear hb hbox hg) | ((with_reducible refine gate_dst (N := 2) rfl ?_); (try (refine gate_guard (by rfl) ?_; dsimp only)); refine box_event ?hg (N := 2) ?hd (cs := #[.slice none 0 0, .slice none 0 0]) (t := 27) ?hr ?_; (case hd => rfl); (case hg => rfl); (case hr => first | (go_simp; done) | (go_simp; rfl)); intro ac hg bJ hbox hb; have ab := Aside0.mk (hbox); have bz := xG HB hg; have aH := xG HB hg; replace HB := xS HB hb; have am := xN aa hg; have an := xM aa hg; replace aa := xB aa hb; clear hb hbox hg; have cr := am.out; have ct := an.out; have bh : bJ.cell? ⟨ag, 0, none⟩ = some (.slice A0_0 l0_0.length c0_0) := b1 aa 0; have bi : bJ.cell? ⟨ag, 1, none⟩ = some (.slice A0_1 l0_1.length c0_1) := b1 aa 1; have bj := blk_frozen aa.out 0; have bk := blk_frozen aa.out 1) | ((with_reducible refine gate_callee (f := 56) rfl ?_); refine goesL_ (some 7) rfl rfl Try.func56 (by kernel_rfl) rfl #[.agg #[.slice A0_0 l0_0.length c0_0, .slice A0_1 l0_1.length c0_1]] rfl (by (try simp only [m3]); first | done | rfl | (simp only [d2]; rfl)) ?_; (with_reducible refine (impl_isRight.calls k _ _ l0_0 _ _ l0_1 true _ ?side1 ?side2 ?side3 ?side4 A2.out).mono ?_); (case side1 => exact zC (Kd.C_below HR0_0.out HB.out)); (case side2 => exact HC0_0.out); (case side3 => exact zC (Kd.C_below HR0_1.out HB.out)); (case side4 => exact HC0_1.out); rintro e bK ⟨rfl, hb⟩; refine ⟨_, rfl, ?_⟩; replace aa := xB aa hb; replace ab := xB ab hb; replace HB := xS HB hb; (try clear hb); (try clear hb2); (try clear hk); (try clear hi); have bl : bK.cell? ⟨ag, 0, none⟩ = some (.slice A0_0 l0_0.length c0_0) := b1 aa 0; have bm : bK.cell? ⟨ag, 1, none⟩ = some (.slice A0_1 l0_1.length c0_1) := b1 aa 1; have bn := blk_frozen aa.out 0; have bo := blk_frozen aa.out 1) | ((with_reducible refine gate_callee (f := 62) rfl ?_); refine goesL_ (some 12) rfl rfl Try.func62 (by kernel_rfl) rfl #[.slice A0_0 l0_0.length c0_0] rfl (by (try simp only [m3]); first | done | rfl | (simp only [d2]; rfl)) ?_; (with_reducible refine (slices_Clone_int_int.calls _ _ l0_0 ao _ ?side1 ?side2 A4.out).mono ?_); (case side1 => exact zC (Kd.C_below HR0_0.out HB.out)); (case side2 => exact HC0_0.out); rintro e cn ⟨cL, rfl, ho0, hb⟩; refine ⟨_, rfl, ?_⟩; have av := Aside0.mk (Kd.R_lower ho0 (below_size (zS HB.out))); replace aa := xB aa hb; replace ab := xB ab hb; replace HB := xS HB hb; (try clear hb); (try clear hb2); (try clear hk); (try clear hi); (try clear ho0)))
    replace av := Aside0.mk (Kd.R_drew av.out); replace aa := Aside0.mk (blk_drew aa.out); replace ab := Aside0.mk (blk_drew ab.out); replace HB := Aside0.mk (below_drew1 HB.out); refine start_ (n := 8) (S := fun w' => w'.cell? ⟨ag, 0, none⟩ = some (.slice A0_0 l0_0.length c0_0) ∧ w'.cell? ⟨ag, 1, none⟩ = some (.slice A0_1 l0_1.length c0_1)) (ds := []) bl0 (by kernel_rfl) rfl rfl ⟨b1 aa 0, b1 aa 1⟩ (fun hHeld => ?_); refine with_tabW impl_WordCanon.tab4 impl_WordCanon.bits4 (fun HT_ HW_ => ?_); generalize cn.drew = cW at av aa ab HB hHeld ⊢
    refine pu 0 (some 13) bl1 HT_ ?_ rfl rfl (.inl ⟨by rfl, ?_⟩) ?_ ?_ ?_; rotate_left; (intro w'; go_simp; with_reducible rfl); rotate_left; (simp only [Act.put, q5]; rfl)
    refine pu 2 (some 15) bl2 HT_ ?_ rfl rfl (.inl ⟨by rfl, ?_⟩) ?_ ?_ ?_; rotate_left; (intro w'; go_simp; with_reducible rfl); rotate_left; (simp only [Act.put, q5]; rfl)
    refine take_ (i := 1) (N := some 14) (v := ?_) (a' := ?_) bl3 rfl rfl (take_ofW HT_.out HW_.out (by kernel_rfl)) (fun _ _ _ h => h) (Or.inl ⟨by rfl, ?_⟩) hHeld ?_ ?_; rotate_left
    ·rintro w' ⟨s0, s1⟩; go_simp; with_reducible rfl
    rotate_left
    ·simp only [Act.put, q5]; rfl
    refine take_ (i := 3) (N := some 16) (v := ?_) (a' := ?_) bl4 rfl rfl (take_ofW HT_.out HW_.out (by kernel_rfl)) (fun _ _ _ h => h) (Or.inl ⟨by rfl, ?_⟩) hHeld ?_ ?_; rotate_left
    ·rintro w' ⟨s0, s1⟩; go_simp; with_reducible rfl
    rotate_left
    ·simp only [Act.put, q5]; rfl
    refine one_ (i := 4) (N := some 17) bl5 rfl rfl (one_of HT_.out (by kernel_rfl)) (by decide) (fun K hK => ?_); refine goes_ Try.func67 (by kernel_rfl) rfl #[.slice A0_1 l0_1.length c0_1] (by rfl) rfl rfl (by (try simp only [m3]); first | done | rfl | (simp only [d2]; rfl)) ?_
    with_reducible refine (impl_period.calls k _ _ l0_1 ad _ ?side1 ?side2 A5.out).mono ?_
    (case side1 => exact zC (Kd.C_below HR0_1.out HB.out))
    (case side2 => exact HC0_1.out)
    rintro e w' ⟨rfl, ⟨nd, rfl⟩⟩; refine ⟨_, rfl, ?_⟩; obtain ⟨i017, hi017, _, hsz17, _⟩ := info_parts info3; obtain ⟨hcut17, hA17, hC17⟩ := print_take_of (P := Try.prog) (Value.int .i64) 0 22 3 .i64 Try.underlying22 hi017 hsz17 A0_1 c0_1 l0_1 ad (of_decide_eq_true (by first | (with_reducible assumption) | assumption)) (of_decide_eq_true (by first | (with_reducible assumption) | assumption)) HC0_1.out; have HR235 := Aside0.mk (Kd.C_of_reads (h1 := fun _ => rfl) (hA17 _ (Kd.reads_of_C HR0_1.out))); have HC235 := Aside0.mk hC17; clear hA17 hC17 hi017 hsz17; refine hK.out _ _ ⟨b1 aa 0, b1 aa 1⟩ (fun hHeld => ?_); clear hK K; refine norm_ (a' := ?_) ?_ ?_; rotate_left
    ·show Act.put _ (some 17) _ = _; simp only [Act.put, q5]; rfl
    refine pu 5 (some 18) bl6 HT_ ?_ rfl rfl (.inl ⟨by rfl, ?_⟩) ?_ ?_ ?_; rotate_left; (intro w'; go_simp; with_reducible rfl); rotate_left; (simp only [Act.put, q5]; rfl)
    refine one_ (i := 6) (N := some 19) bl7 rfl rfl (one_of HT_.out (by kernel_rfl)) (by decide) (fun K hK => ?_); refine goes_ Try.func62 (by kernel_rfl) rfl #[.slice A0_1 (l0_1.take (ad : Int).toNat).length c0_1] (by rfl) rfl rfl (by (try simp only [m3]); first | done | (rw [show (l0_1.take (ad : Int).toNat).length = ad.toNat from (by rw [List.length_take]; have h_ : (ad : Int) ≤ (l0_1.length : Int) := of_decide_eq_true (by first | (with_reducible assumption) | assumption); omega)] <;> rfl) | rfl | (simp only [d2]; rfl)) ?_
    with_reducible refine (slices_Clone_int_int.calls _ _ (l0_1.take (ad : Int).toNat) ae _ ?side1 ?side2 A8.out).mono ?_
    (case side1 => repeat (first | exact (Kd.C_below HR235.out (zS HB.out)) | (with_reducible refine Kd.C_alloc ?_ _) | (with_reducible refine Kd.C_drewN ?_ _) | (with_reducible refine Kd.C_drew ?_)))
    (case side2 => exact HC235.out)
    rintro e cX ⟨cM, rfl, ho0, hb⟩; refine ⟨_, rfl, ?_⟩; have aW := Aside0.mk (Kd.R_lower (Kd.R_new' ho0 (Kd.R_lt (zR av.out))) (below_size (zS HB.out))); replace av := xE av ho0 hb; replace aa := xB aa hb; replace ab := xB ab hb; replace HB := xS HB hb
    (try clear hb)
    (try clear hb2)
    (try clear hk)
    (try clear hi)
    (try clear ho0)
    refine hK.out _ _ ⟨b1 aa 0, b1 aa 1⟩ (fun hHeld => ?_); clear hK K; refine norm_ (a' := ?_) ?_ ?_; rotate_left
    ·show Act.put _ (some 19) _ = _; simp only [Act.put, q5]; rfl
    refine pu 7 (some 4) bl8 HT_ ?_ rfl rfl (.inl ⟨by rfl, ?_⟩) ?_ ?_ ?_; rotate_left; (intro w'; go_simp; with_reducible rfl); rotate_left; (simp only [Act.put, q5]; rfl)
    refine done_ (done_of HT_.out (by kernel_rfl)) ?_; obtain ⟨cN, cO, bT⟩ := Kd.R_slice aW.out; subst bT
    try go_wp2
    go_loopg [3, 4] k (fun kq v3 v4 w' => ∃ (x3_1 : List Int) (x4_1 : List Int), Aside0 (impl_WordCanon.l0 kq x3_1 x4_1 (wrap64 ((ae.length : Int) - 1)) = some (r1, r2)) ∧ Aside0 (kq ≤ k) ∧ Aside0 (Kd.R (Kd.int .i64) 3 w' w.heap.size (fun k_ => some k_ ≠ (v4 : Value).ownBlock) v3 x3_1) ∧ Aside0 (Kd.R (Kd.int .i64) 3 w' w.heap.size (fun k_ => some k_ ≠ (v3 : Value).ownBlock) v4 x4_1) ∧ Aside0 (w'.heap[ag]? = some (.cells #[(.slice A0_0 l0_0.length c0_0), (.slice A0_1 l0_1.length c0_1)] 27 (0, 0))) ∧ Aside0 (w'.heap[ac]? = some (.cells #[(.slice none 0 0), (.slice none 0 0)] 27 (0, 0))) ∧ Aside0 (Below w.heap.size w w'))
    case atStart => exact ⟨(ao), (ae), H', ⟨Nat.le_refl _⟩, ⟨by (with_reducible repeat (first | apply Kd.R_alloc | apply Kd.R_drewN | apply Kd.R_drew)); exact Kd.R_mono av.out (fun _ hk => hk.2)⟩, ⟨by (with_reducible repeat (first | apply Kd.R_alloc | apply Kd.R_drewN | apply Kd.R_drew)); exact Kd.R_mono aW.out (fun _ hk => hk.2)⟩, ⟨zB aa.out⟩, ⟨zB ab.out⟩, ⟨zS HB.out⟩⟩
    case round =>
     clear H'
     try clear c1
     try clear p2
     try clear c3
     try clear c4
     try clear c5
     try clear c6
     try clear bP
     try clear bQ
     try clear p6
     try clear c7
     try clear bR
     try clear bS
     try clear cY
     try clear bh
     try clear bi
     try clear bl
     try clear bm
     try clear bj
     try clear bk
     try clear bn
     try clear bo
     obtain ⟨x3_1, x4_1, HA, HK1, ah, af, aa, ab, HB⟩ := hrel
     cases gk with
     | zero => exact absurd HA.out (by simp [impl_WordCanon.l0])
     | succ k1 =>
      have H := HA.out; clear HA; simp only [impl_WordCanon.l0] at H
      by_cases aK : (x3_1.length : Int) > 0
      ·rw [if_pos aK] at H; have bA : decide (0 < (x3_1.length : Int)) = true := decide_eq_true aK; have bB : decide (0 < x3_1.length) = true := decide_eq_true (by omega); clear aK; obtain ⟨ji21, hji21⟩ : ∃ j_ : Int, (wrap64 ((x3_1.length : Int) - 1)) = j_ := ⟨_, rfl⟩
       replace H : (if 0 ≤ (ji21) then (if (ji21) < (x3_1.length : Int) then (if 0 ≤ (wrap64 ((ae.length : Int) - 1)) then (if (wrap64 ((ae.length : Int) - 1)) < (x4_1.length : Int) then (if (rd x3_1 (ji21)) = (rd x4_1 (wrap64 ((ae.length : Int) - 1))) then (if (ji21) ≤ (x3_1.length : Int) then (if (wrap64 ((ae.length : Int) - 1)) ≤ (x4_1.length : Int) then ((slices_Concat_int_int.f k1 (([(x4_1.drop ((wrap64 ((ae.length : Int) - 1)) : Int).toNat), (x4_1.take ((wrap64 ((ae.length : Int) - 1)) : Int).toNat)] : List (List Int)))).bind fun ai => (impl_WordCanon.l0 k1 (x3_1.take ((ji21) : Int).toNat) ai (wrap64 ((ae.length : Int) - 1)))) else (none)) else (none)) else (some (x3_1, x4_1))) else (none)) else (none)) else (none)) else (none)) = some (r1, r2) := by first | (rw [hji21] at H; exact H) | (simp only [hji21] at H ⊢; exact H)
       have hji21w : (IntKind.i64.wrap ((x3_1.length : Int) - 1)) = ji21 := (i64_w _).trans hji21
       by_cases aX : 0 ≤ (ji21)
       ·rw [if_pos aX] at H; have cu : decide (0 ≤ (ji21)) = true := decide_eq_true aX; clear aX
        by_cases aY : (ji21) < (x3_1.length : Int)
        ·rw [if_pos aY] at H; have cv : decide ((ji21) < (x3_1.length : Int)) = true := decide_eq_true aY; clear aY; obtain ⟨ji24, hji24⟩ : ∃ j_ : Int, (wrap64 ((ae.length : Int) - 1)) = j_ := ⟨_, rfl⟩
         replace H : (if 0 ≤ (ji24) then (if (ji24) < (x4_1.length : Int) then (if (rd x3_1 (ji21)) = (rd x4_1 (ji24)) then (if (ji21) ≤ (x3_1.length : Int) then (if (ji24) ≤ (x4_1.length : Int) then ((slices_Concat_int_int.f k1 (([(x4_1.drop ((ji24) : Int).toNat), (x4_1.take ((ji24) : Int).toNat)] : List (List Int)))).bind fun ai => (impl_WordCanon.l0 k1 (x3_1.take ((ji21) : Int).toNat) ai (ji24))) else (none)) else (none)) else (some (x3_1, x4_1))) else (none)) else (none)) = some (r1, r2) := by first | (rw [hji24] at H; exact H) | (simp only [hji24] at H ⊢; exact H)
         have hji24w : (IntKind.i64.wrap ((ae.length : Int) - 1)) = ji24 := (i64_w _).trans hji24
         by_cases aZ : 0 ≤ (ji24)
         ·rw [if_pos aZ] at H; have cw : decide (0 ≤ (ji24)) = true := decide_eq_true aZ; clear aZ
          by_cases ba : (ji24) < (x4_1.length : Int)
          ·rw [if_pos ba] at H; have cx : decide ((ji24) < (x4_1.length : Int)) = true := decide_eq_true ba; clear ba
           by_cases aI : (rd x3_1 (ji21)) = (rd x4_1 (ji24))
           ·rw [if_pos aI] at H; have bC : ((rd x3_1 (ji21)) == (rd x4_1 (ji24))) = true := beq_iff_eq.mpr aI; have bD : ((rd x3_1 (ji21)) != (rd x4_1 (ji24))) = false := bne_eq_false_iff_eq.mpr aI; clear aI
            by_cases aP : (ji21) ≤ (x3_1.length : Int)
            ·rw [if_pos aP] at H; have cy := eq_true aP; have cz : decide ((ji21) ≤ (x3_1.length : Int)) = true := decide_eq_true aP; clear aP; obtain ⟨aj, aB⟩ : ∃ y_ : List Int, y_ = (x3_1.take ((ji21) : Int).toNat) := ⟨_, rfl⟩
             replace H : (if (ji24) ≤ (x4_1.length : Int) then ((slices_Concat_int_int.f k1 (([(x4_1.drop ((ji24) : Int).toNat), (x4_1.take ((ji24) : Int).toNat)] : List (List Int)))).bind fun ai => (impl_WordCanon.l0 k1 aj ai (ji24))) else (none)) = some (r1, r2) := by first | (rw [aB]; with_reducible exact H) | (have H2_ := (Option.bind_some _ _).symm.trans H; rw [aB]; with_reducible exact H2_) | (have H2_ := (Option.bind_some _ _).symm.trans H; with_reducible exact H2_) | with_reducible exact H | (rw [aB]; exact H) | exact H
             have bb := Aside0.mk aB; clear aB; have cA := eq_true (of_decide_eq_true (by first | (with_reducible assumption) | assumption) : 0 ≤ (ji24))
             by_cases aQ : (ji24) ≤ (x4_1.length : Int)
             ·rw [if_pos aQ] at H; have cB := eq_true aQ; have cC : decide ((ji24) ≤ (x4_1.length : Int)) = true := decide_eq_true aQ; clear aQ; obtain ⟨ak, aC⟩ : ∃ y_ : List Int, y_ = (x4_1.drop ((ji24) : Int).toNat) := ⟨_, rfl⟩
              replace H : ((slices_Concat_int_int.f k1 (([ak, (x4_1.take ((ji24) : Int).toNat)] : List (List Int)))).bind fun ai => (impl_WordCanon.l0 k1 aj ai (ji24))) = some (r1, r2) := by first | (rw [aC]; with_reducible exact H) | (have H2_ := (Option.bind_some _ _).symm.trans H; rw [aC]; with_reducible exact H2_) | (have H2_ := (Option.bind_some _ _).symm.trans H; with_reducible exact H2_) | with_reducible exact H | (rw [aC]; exact H) | exact H
              have bc := Aside0.mk aC; clear aC; have cD := eq_true (of_decide_eq_true (by first | (with_reducible assumption) | assumption) : 0 ≤ (ji24)); have cE := eq_true (of_decide_eq_true (by first | (with_reducible assumption) | assumption) : (ji24) ≤ (x4_1.length : Int)); obtain ⟨aq, aD⟩ : ∃ y_ : List Int, y_ = (x4_1.take ((ji24) : Int).toNat) := ⟨_, rfl⟩
              replace H : ((slices_Concat_int_int.f k1 (([ak, aq] : List (List Int)))).bind fun ai => (impl_WordCanon.l0 k1 aj ai (ji24))) = some (r1, r2) := by first | (rw [aD]; with_reducible exact H) | (have H2_ := (Option.bind_some _ _).symm.trans H; rw [aD]; with_reducible exact H2_) | (have H2_ := (Option.bind_some _ _).symm.trans H; with_reducible exact H2_) | with_reducible exact H | (rw [aD]; exact H) | exact H
              have bd := Aside0.mk aD; clear aD; obtain ⟨aR, aE⟩ : ∃ y_ : List (List Int), y_ = (([ak, aq] : List (List Int))) := ⟨_, rfl⟩
              replace H : ((slices_Concat_int_int.f k1 aR).bind fun ai => (impl_WordCanon.l0 k1 aj ai (ji24))) = some (r1, r2) := by first | (rw [aE]; with_reducible exact H) | (have H2_ := (Option.bind_some _ _).symm.trans H; rw [aE]; with_reducible exact H2_) | (have H2_ := (Option.bind_some _ _).symm.trans H; with_reducible exact H2_) | with_reducible exact H | (rw [aE]; exact H) | exact H
              have be := Aside0.mk aE; clear aE; replace H := Option.bind_eq_some_iff.mp H; obtain ⟨ai, bp, H⟩ := H; replace H : (impl_WordCanon.l0 k1 aj ai (ji24)) = some (r1, r2) := H; have co := Aside0.mk bp; clear bp; have H' := Aside0.mk H; clear H
              try go_wp2
              replace ah := Aside0.mk (Kd.R_drew ah.out); replace af := Aside0.mk (Kd.R_drew af.out); replace aa := Aside0.mk (blk_drew aa.out); replace ab := Aside0.mk (blk_drew ab.out); replace HB := Aside0.mk (below_drew1 HB.out); obtain ⟨cP, ay, bq⟩ := Kd.R_slice ah.out
              (first | subst bq | (injection bq with f1_ f2_ f3_; have f4_ := f1_.symm; have f5_ := f3_.symm; clear f1_ f2_ f3_; subst f4_; subst f5_))
              have az : 0 ≤ ((ji21) : Int) := of_decide_eq_true (by first | (with_reducible assumption) | assumption); have q239 : (ji21) < (x3_1.length : Int) := of_decide_eq_true (by first | (with_reducible assumption) | assumption); obtain ⟨ad239, e239, ar⟩ := Kd.at_int (Kd.R_reads' ah.out).2.2 (ji21) az q239
              cases e239
              replace az := eq_true az; replace q239 := eq_true q239; obtain ⟨cQ, ap, br⟩ := Kd.R_slice af.out
              (first | subst br | (injection br with f1_ f2_ f3_; have f4_ := f1_.symm; have f5_ := f3_.symm; clear f1_ f2_ f3_; subst f4_; subst f5_))
              have aA : 0 ≤ ((ji24) : Int) := of_decide_eq_true (by first | (with_reducible assumption) | assumption); have q240 : (ji24) < (x4_1.length : Int) := of_decide_eq_true (by first | (with_reducible assumption) | assumption); obtain ⟨ad240, e240, au⟩ := Kd.at_int (Kd.R_reads' af.out).2.2 (ji24) aA q240
              cases e240
              replace aA := eq_true aA; replace q240 := eq_true q240; refine start_ (n := 16) (S := fun w' => w'.cell? (ad239.add ((ji21)).toNat) = some (.int .i64 (rd x3_1 (ji21))) ∧ w'.cell? (ad240.add ((ji24)).toNat) = some (.int .i64 (rd x4_1 (ji24)))) (ds := []) bl9 (by kernel_rfl) rfl rfl ⟨ar, au⟩ (fun hHeld => ?_); refine with_tabW impl_WordCanon.tab6 impl_WordCanon.bits6 (fun HT_ HW_ => ?_); generalize wr.drew = cp at ah af aa ab HB ar au hHeld ⊢
              refine pu 0 (some 23) bl10 HT_ ?_ rfl rfl (.inl ⟨by rfl, ?_⟩) ?_ ?_ ?_; rotate_left; (intro w'; go_simp; with_reducible rfl); rotate_left; (simp only [Act.put, q5]; rfl)
              refine pu 1 (some 24) bl11 HT_ ?_ rfl rfl (.inl ⟨by rfl, ?_⟩) ?_ ?_ ?_; rotate_left; (intro w'; go_simp; with_reducible rfl); rotate_left; (simp only [Act.put, q5]; rfl)
              refine pu 2 (some 25) bl12 HT_ ?_ rfl rfl (.inl ⟨by rfl, ?_⟩) ?_ ?_ ?_; rotate_left; (intro w'; go_simp; with_reducible rfl); rotate_left; (simp only [Act.put, q5]; rfl)
              refine pu 3 (some 26) bl13 HT_ ?_ rfl rfl (.inl ⟨by rfl, ?_⟩) ?_ ?_ ?_; rotate_left; (intro w'; go_simp; with_reducible rfl); rotate_left; (simp only [Act.put, q5]; rfl)
              refine pu 4 (some 27) bl14 HT_ ?_ rfl rfl (.inl ⟨by rfl, ?_⟩) ?_ ?_ ?_; rotate_left; (intro w'; go_simp; with_reducible rfl); rotate_left; (simp only [Act.put, q5]; rfl)
              refine pu 5 (some 28) bl15 HT_ ?_ rfl rfl (.inl ⟨by rfl, ?_⟩) ?_ ?_ ?_; rotate_left; (intro w'; go_simp; with_reducible rfl); rotate_left; (simp only [Act.put, q5]; rfl)
              refine pu 6 (some 29) bl16 HT_ ?_ rfl rfl (.inl ⟨by rfl, ?_⟩) ?_ ?_ ?_; rotate_left; (intro w'; go_simp; with_reducible rfl); rotate_left; (simp only [Act.put, q5]; rfl)
              refine pu 7 (some 30) bl17 HT_ ?_ rfl rfl (.inl ⟨by rfl, ?_⟩) ?_ ?_ ?_; rotate_left; (intro w'; go_simp; with_reducible rfl); rotate_left; (simp only [Act.put, q5]; rfl)
              refine pu 8 (some 31) bl18 HT_ ?_ rfl rfl (.inl ⟨by rfl, ?_⟩) ?_ ?_ ?_; rotate_left; (intro w'; go_simp; with_reducible rfl); rotate_left; (simp only [Act.put, q5]; rfl)
              refine pu 10 (some 33) bl19 HT_ ?_ rfl rfl (.inl ⟨by rfl, ?_⟩) ?_ ?_ ?_; rotate_left; (intro w'; go_simp; with_reducible rfl); rotate_left; (simp only [Act.put, q5]; rfl)
              refine pu 11 (some 34) bl20 HT_ ?_ rfl rfl (.inl ⟨by rfl, ?_⟩) ?_ ?_ ?_; rotate_left; (intro w'; go_simp; with_reducible rfl); rotate_left; (simp only [Act.put, q5]; rfl)
              refine pu 12 (some 35) bl21 HT_ ?_ rfl rfl (.inl ⟨by rfl, ?_⟩) ?_ ?_ ?_; rotate_left; (intro w'; go_simp; with_reducible rfl); rotate_left; (simp only [Act.put, q5]; rfl)
              refine take_ (i := 9) (N := some 32) (v := ?_) (a' := ?_) bl22 rfl rfl (take_ofW HT_.out HW_.out (by kernel_rfl)) (fun _ _ _ h => h) (Or.inl ⟨by rfl, ?_⟩) hHeld ?_ ?_; rotate_left
              ·rintro w' ⟨s0, s1⟩; go_simp; with_reducible rfl
              rotate_left
              ·simp only [Act.put, q5]; rfl
              refine take_ (i := 13) (N := some 36) (v := ?_) (a' := ?_) bl23 rfl rfl (take_ofW HT_.out HW_.out (by kernel_rfl)) (fun _ _ _ h => h) (Or.inl ⟨by rfl, ?_⟩) hHeld ?_ ?_; rotate_left
              ·rintro w' ⟨s0, s1⟩; go_simp; with_reducible rfl
              rotate_left
              ·simp only [Act.put, q5]; rfl
              refine pu 14 (some 37) bl24 HT_ ?_ rfl rfl (.inl ⟨by rfl, ?_⟩) ?_ ?_ ?_; rotate_left; (intro w'; go_simp; with_reducible rfl); rotate_left; (simp only [Act.put, q5]; rfl)
              refine pu 15 (some 38) bl25 HT_ ?_ rfl rfl (.inl ⟨by rfl, ?_⟩) ?_ ?_ ?_; rotate_left; (intro w'; go_simp; with_reducible rfl); rotate_left; (simp only [Act.put, q5]; rfl)
              refine done_ (done_of HT_.out (by kernel_rfl)) ?_; have q37 : ((ji21) : Int) ≤ ((x3_1.length : Int) : Int) := of_decide_eq_true (by first | (with_reducible assumption) | assumption); obtain ⟨i037, hi037, _, hsz37, _⟩ := info_parts info3; have hcut37 := cut_to (P := Try.prog) 22 3 .i64 Try.underlying22 hi037 (some ad239) x3_1.length ay (ji21) (of_decide_eq_true (by first | (with_reducible assumption) | assumption)) q37 (Kd.R_reads' ah.out).2.1; have hr37 := Kd.R_take (m := ((ji21) : Int).toNat) ah.out (by omega); have bs : aj.length = ((ji21) : Int).toNat := (by rw [bb.out, List.length_take]; omega); rw [← bb.out] at hr37; rw [← bs] at hr37 hcut37; clear bs hi037 hsz37 ah; have al := Aside0.mk hr37; clear hr37; replace q37 := eq_true q37
              try go_wp2
              replace al := Aside0.mk (Kd.R_drew al.out); replace af := Aside0.mk (Kd.R_drew af.out); replace aa := Aside0.mk (blk_drew aa.out); replace ab := Aside0.mk (blk_drew ab.out); replace HB := Aside0.mk (below_drew1 HB.out); have q39 : ((ji24) : Int) ≤ ((x4_1.length : Int) : Int) := of_decide_eq_true (by first | (with_reducible assumption) | assumption); obtain ⟨i039, hi039, _, hsz39, _⟩ := info_parts info3; have hroom39 : x4_1.length ≤ ap := (Kd.R_reads' af.out).2.1; have hC39 : Kd.F (Kd.int .i64) _ _ (some ad240) x4_1.length x4_1 := (Kd.V_at (base := w.heap.size) (Kd.R_V (Kd.R_types (Kd.R_types (af.out) aa.out (by decide)) ab.out (by decide)))).2.2; have q039 : (0 : Int) ≤ ((ji24) : Int) := of_decide_eq_true (by first | (with_reducible assumption) | assumption); have hcut39 := cut_from (P := Try.prog) 22 3 .i64 Try.underlying22 hi039 1 hsz39 (some ad240) x4_1.length ap (ji24) q039 q39; have hr39 := Kd.F_cut (m := ((ji24) : Int).toNat) (c := ap) hC39 (by omega) hroom39; obtain ⟨bf, hA39⟩ : ∃ A1, A1 = (if ap = ((ji24) : Int).toNat then (some ad240) else ((some ad240) : Option Addr).map (·.add (((ji24) : Int).toNat * 1))) := ⟨_, rfl⟩; obtain ⟨bg, hc39⟩ : ∃ c1, c1 = ap - ((ji24) : Int).toNat := ⟨_, rfl⟩; have aJ : ak.length = x4_1.length - ((ji24) : Int).toNat := (by rw [bc.out, List.length_drop] <;> omega); rw [show (x4_1).drop ((ji24) : Int).toNat = ak from bc.out.symm] at hr39; replace hr39 : Kd.F (Kd.int .i64) _ _ bf ak.length ak := (by rw [hA39]; exact hr39); rw [← aJ, ← hA39, ← hc39] at hcut39; have aw := Aside0.mk (show Kd.V (Kd.int .i64) 3 _ w.heap.size _ (.slice bf ak.length bg) ak from Kd.V_mk (by rw [aJ, hc39]; exact Nat.sub_le_sub_right hroom39 _) hr39); have HC248 := Aside0.mk (show ak.length ≤ bg from by rw [aJ, hc39]; exact Nat.sub_le_sub_right hroom39 _); clear hr39 hC39 hroom39 hi039 hsz39 hc39; have KY39 := Aside0.mk aJ; have KA39 := Aside0.mk hA39; clear aJ hA39; replace q39 := eq_true q39; have q40 : ((ji24) : Int) ≤ ((x4_1.length : Int) : Int) := of_decide_eq_true (by first | (with_reducible assumption) | assumption); obtain ⟨i040, hi040, _, hsz40, _⟩ := info_parts info3; have hroom40 : x4_1.length ≤ ap := (Kd.R_reads' af.out).2.1; have hC40 : Kd.F (Kd.int .i64) _ _ (some ad240) x4_1.length x4_1 := (Kd.V_at (base := w.heap.size) (Kd.R_V (Kd.R_types (Kd.R_types (af.out) aa.out (by decide)) ab.out (by decide)))).2.2; have hcut40 := cut_to (P := Try.prog) 22 3 .i64 Try.underlying22 hi040 (some ad240) x4_1.length ap (ji24) (of_decide_eq_true (by first | (with_reducible assumption) | assumption)) q40 hroom40; have hr40 := Kd.F_take (m := ((ji24) : Int).toNat) hC40 (by omega); have aS : aq.length = ((ji24) : Int).toNat := (by rw [bd.out, List.length_take]; omega); rw [← bd.out] at hr40; rw [← aS] at hcut40
              have ax := Aside0.mk (show Kd.V (Kd.int .i64) 3 _ w.heap.size _ (.slice (some ad240) aq.length ap) aq from Kd.V_mk (by omega) hr40); have HC253 := Aside0.mk (show aq.length ≤ ap from by omega); clear hr40 hC40 hroom40 hi040 hsz40; have KY40 := Aside0.mk aS; clear aS; replace q40 := eq_true q40; refine start_ (n := 9) (S := fun w' => True) (ds := []) bl26 (by kernel_rfl) rfl rfl trivial (fun hHeld => ?_); refine with_tabW impl_WordCanon.tab8 impl_WordCanon.bits8 (fun HT_ HW_ => ?_); generalize cp.drew = cq at al af aa ab HB aw ax hHeld ⊢
              refine pu 0 (some 44) bl27 HT_ ?_ rfl rfl (.inl ⟨by rfl, ?_⟩) ?_ ?_ ?_; rotate_left; (intro w'; go_simp; with_reducible rfl); rotate_left; (simp only [Act.put, q5]; rfl)
              refine pu 1 (some 45) bl28 HT_ ?_ rfl rfl (.inl ⟨by rfl, ?_⟩) ?_ ?_ ?_; rotate_left; (intro w'; go_simp; with_reducible rfl); rotate_left; (simp only [Act.put, q5]; rfl)
              refine pu 2 (some 46) bl29 HT_ ?_ rfl rfl (.inl ⟨by rfl, ?_⟩) ?_ ?_ ?_; rotate_left; (intro w'; go_simp; with_reducible rfl); rotate_left; (simp only [Act.put, q5]; rfl)
              refine pu 3 (some 47) bl30 HT_ ?_ rfl rfl (.inl ⟨by rfl, ?_⟩) ?_ ?_ ?_; rotate_left; (intro w'; go_simp; with_reducible rfl); rotate_left; (simp only [Act.put, q5]; rfl)
              refine pu 4 (some 48) bl31 HT_ ?_ rfl rfl (.inl ⟨by rfl, ?_⟩) ?_ ?_ ?_; rotate_left; (intro w'; go_simp; with_reducible rfl); rotate_left; (simp only [Act.put, q5]; rfl)
              refine pu 5 (some 49) bl32 HT_ ?_ rfl rfl (.inl ⟨by rfl, ?_⟩) ?_ ?_ ?_; rotate_left; (intro w'; go_simp; with_reducible rfl); rotate_left; (simp only [Act.put, q5]; rfl)
              refine one_ (i := 6) (N := some 50) bl33 rfl rfl (one_of HT_.out (by kernel_rfl)) (by decide) (fun K hK => ?_)
              refine Kd.N_lit_step (Kd.slice 3 (Kd.int .i64)) _ 22 ?hg (N' := 50) ?hd (xs := ([ak, aq] : List (List Int))) (inner := [.slice bf ak.length bg, .slice (some ad240) aq.length ap]) (ok := (fun k_ => some k_ ≠ (.slice (some ad239) aj.length ay : Value).ownBlock ∧ k_ ≠ ag ∧ k_ ≠ ac)) (okp := (fun k_ => some k_ ≠ (.slice (some ad239) aj.length ay : Value).ownBlock ∧ k_ ≠ ag ∧ k_ ≠ ac)) ?hr ?hp (fun _ hk => hk) ((show ∀ k_, cq.heap.size ≤ k_ → (fun k_ => some k_ ≠ (.slice (some ad239) aj.length ay : Value).ownBlock ∧ k_ ≠ ag ∧ k_ ≠ ac) k_ from fun k_ hk => ⟨Kd.fresh' (Kd.R_lt (zR al.out)) k_ hk, Kd.freshB (g := ag) (o := .cells #[.slice A0_0 l0_0.length c0_0, .slice A0_1 l0_1.length c0_1] 27 (0, 0)) (zB aa.out) k_ hk, Kd.freshB (g := ac) (o := .cells #[.slice none 0 0, .slice none 0 0] 27 (0, 0)) (zB ab.out) k_ hk⟩) _ (Nat.le_refl _)) (Below.refl _ _) (Nat.le_refl _) (by simp) ?_; (case hd => rfl); (case hg => rfl); (case hr => first | (go_simp; done) | (go_simp; rfl)); (case hp => exact (Reps.one (show Kd.FK (Kd.slice 3 (Kd.int .i64)) _ _ ak [.slice bf ak.length bg] from (Kd.FK_slice_mk (Kd.V_reads' (Kd.V_mono (ok' := (fun k_ => some k_ ≠ (.slice (some ad239) aj.length ay : Value).ownBlock ∧ k_ ≠ ag ∧ k_ ≠ ac)) (aw.out) (fun k_ hk => ⟨hk.1.1, ⟨hk.1.2, hk.2⟩⟩))).2.1 (Kd.V_F (Kd.V_mono (ok' := (fun k_ => some k_ ≠ (.slice (some ad239) aj.length ay : Value).ownBlock ∧ k_ ≠ ag ∧ k_ ≠ ac)) (aw.out) (fun k_ hk => ⟨hk.1.1, ⟨hk.1.2, hk.2⟩⟩))))) (Reps.one (show Kd.FK (Kd.slice 3 (Kd.int .i64)) _ _ aq [.slice (some ad240) aq.length ap] from (Kd.FK_slice_mk (Kd.V_reads' (Kd.V_mono (ok' := (fun k_ => some k_ ≠ (.slice (some ad239) aj.length ay : Value).ownBlock ∧ k_ ≠ ag ∧ k_ ≠ ac)) (ax.out) (fun k_ hk => ⟨hk.1.1, ⟨hk.1.2, hk.2⟩⟩))).2.1 (Kd.V_F (Kd.V_mono (ok' := (fun k_ => some k_ ≠ (.slice (some ad239) aj.length ay : Value).ownBlock ∧ k_ ≠ ag ∧ k_ ≠ ac)) (ax.out) (fun k_ hk => ⟨hk.1.1, ⟨hk.1.2, hk.2⟩⟩))))) (Reps.none _ _))))
              intro cR cZ ho42 hb hg_ hnew_; clear hg_ hnew_
              (first | rw [← be.out] at ho42 | (simp only [Int.reduceToNat] at ho42; rw [← be.out] at ho42))
              replace al := xR al hb; replace af := xR af hb; replace aw := Aside0.mk (Kd.V_elder' (by (with_reducible repeat (first | apply Kd.V_alloc | apply Kd.V_drewN | apply Kd.V_drew)); exact aw.out) (Kd.N_base ho42) hb); replace ax := Aside0.mk (Kd.V_elder' (by (with_reducible repeat (first | apply Kd.V_alloc | apply Kd.V_drewN | apply Kd.V_drew)); exact ax.out) (Kd.N_base ho42) hb); have aF := Aside0.mk (Kd.N_lower ho42 (below_size (zS HB.out))); replace aa := xB aa hb; replace ab := xB ab hb; replace HB := xS HB hb; clear hb ho42; obtain ⟨bU, bV, bt⟩ := Kd.N_slice aF.out
              (first | subst bt | (injection bt with f1_ f2_ f3_; have f4_ := f1_.symm; have f5_ := f3_.symm; clear f1_ f2_ f3_; subst f4_; subst f5_))
              refine hK.out _ _ trivial (fun hHeld => ?_); clear hK K; refine norm_ (a' := ?_) ?_ ?_; rotate_left
              ·show Act.put _ (some 50) _ = _; simp only [Act.put, q5]; rfl
              refine one_ (i := 7) (N := some 51) bl34 rfl rfl (one_of HT_.out (by kernel_rfl)) (by decide) (fun K hK => ?_); refine goes_ Try.func61 (by kernel_rfl) rfl #[.slice bU aR.length bV] (by rfl) rfl rfl (by (try simp only [m3]); first | done | rfl | (simp only [d2]; rfl)) ?_
              with_reducible refine (slices_Concat_int_int.calls k1 _ _ aR ai _ ?side1 ?side2 co.out).mono ?_
              (case side1 => exact zC (Kd.N_reads' aF.out).2.2)
              (case side2 => exact (Kd.N_reads' aF.out).2.1)
              rintro e da ⟨cS, rfl, ho0, hb⟩; refine ⟨_, rfl, ?_⟩; replace aw := Aside0.mk (Kd.V_elder' (by (with_reducible repeat (first | apply Kd.V_alloc | apply Kd.V_drewN | apply Kd.V_drew)); exact aw.out) (Kd.R_base ho0) hb); replace ax := Aside0.mk (Kd.V_elder' (by (with_reducible repeat (first | apply Kd.V_alloc | apply Kd.V_drewN | apply Kd.V_drew)); exact ax.out) (Kd.R_base ho0) hb); replace aF := Aside0.mk (Kd.N_elder' (by (with_reducible repeat (first | apply Kd.N_alloc | apply Kd.N_drewN | apply Kd.N_drew)); exact aF.out) (Kd.R_base ho0) hb); have bE := Aside0.mk (Kd.R_lower (Kd.R_new' (Kd.R_new' ho0 (Kd.R_lt (zR al.out))) (Kd.R_lt (zR af.out))) (below_size (zS HB.out))); replace al := xE al ho0 hb; replace af := xE af ho0 hb; replace aa := xB aa hb; replace ab := xB ab hb; replace HB := xS HB hb
              (try clear hb)
              (try clear hb2)
              (try clear hk)
              (try clear hi)
              (try clear ho0)
              refine hK.out _ _ trivial (fun hHeld => ?_); clear hK K; refine norm_ (a' := ?_) ?_ ?_; rotate_left
              ·show Act.put _ (some 51) _ = _; simp only [Act.put, q5]; rfl
              refine pu 8 (some 4) bl35 HT_ ?_ rfl rfl (.inl ⟨by rfl, ?_⟩) ?_ ?_ ?_; rotate_left; (intro w'; go_simp; with_reducible rfl); rotate_left; (simp only [Act.put, q5]; rfl)
              refine done_ (done_of HT_.out (by kernel_rfl)) ?_
              try go_wp2
              (first | go_roundg k1 | ((try simp only [← hji21]); (try simp only [← hji24]); go_roundg k1))
              case measure => have := HK1.out; omega
              case rel => exact ⟨(aj), (ai), (by first | exact H' | (have h_ := H'; (try simp only [← hji21] at h_); (try simp only [← hji21]); (try simp only [← hji24] at h_); (try simp only [← hji24]); exact h_)), ⟨by have := HK1.out; omega⟩, ⟨by (with_reducible repeat (first | apply Kd.R_alloc | apply Kd.R_drewN | apply Kd.R_drew)); exact Kd.R_mono al.out (fun _ hk => hk.2)⟩, ⟨by (with_reducible repeat (first | apply Kd.R_alloc | apply Kd.R_drewN | apply Kd.R_drew)); exact Kd.R_mono bE.out (fun _ hk => hk.1.2)⟩, ⟨zB aa.out⟩, ⟨zB ab.out⟩, ⟨zS HB.out⟩⟩
             ·rw [if_neg aQ] at H; exact absurd H (by simp)
            ·rw [if_neg aP] at H; exact absurd H (by simp)
           ·rw [if_neg aI] at H; have bC : ((rd x3_1 (ji21)) == (rd x4_1 (ji24))) = false := beq_eq_false_iff_ne.mpr aI; have bD : ((rd x3_1 (ji21)) != (rd x4_1 (ji24))) = true := bne_iff_ne.mpr aI; simp only [Option.some.injEq, Prod.mk.injEq] at H; obtain ⟨rfl, rfl⟩ := H
            try go_wp2
            replace ah := Aside0.mk (Kd.R_drew ah.out); replace af := Aside0.mk (Kd.R_drew af.out); replace aa := Aside0.mk (blk_drew aa.out); replace ab := Aside0.mk (blk_drew ab.out); replace HB := Aside0.mk (below_drew1 HB.out); obtain ⟨cU, aM, bu⟩ := Kd.R_slice ah.out
            (first | subst bu | (injection bu with f1_ f2_ f3_; have f4_ := f1_.symm; have f5_ := f3_.symm; clear f1_ f2_ f3_; subst f4_; subst f5_))
            have az : 0 ≤ ((ji21) : Int) := of_decide_eq_true (by first | (with_reducible assumption) | assumption); have q239 : (ji21) < (x3_1.length : Int) := of_decide_eq_true (by first | (with_reducible assumption) | assumption); obtain ⟨ad239, e239, ar⟩ := Kd.at_int (Kd.R_reads' ah.out).2.2 (ji21) az q239
            cases e239
            replace az := eq_true az; replace q239 := eq_true q239; obtain ⟨cV, aT, bv⟩ := Kd.R_slice af.out
            (first | subst bv | (injection bv with f1_ f2_ f3_; have f4_ := f1_.symm; have f5_ := f3_.symm; clear f1_ f2_ f3_; subst f4_; subst f5_))
            have aA : 0 ≤ ((ji24) : Int) := of_decide_eq_true (by first | (with_reducible assumption) | assumption); have q240 : (ji24) < (x4_1.length : Int) := of_decide_eq_true (by first | (with_reducible assumption) | assumption); obtain ⟨ad240, e240, au⟩ := Kd.at_int (Kd.R_reads' af.out).2.2 (ji24) aA q240
            cases e240
            replace aA := eq_true aA; replace q240 := eq_true q240; refine start_ (n := 16) (S := fun w' => w'.cell? (ad239.add ((ji21)).toNat) = some (.int .i64 (rd x3_1 (ji21))) ∧ w'.cell? (ad240.add ((ji24)).toNat) = some (.int .i64 (rd x4_1 (ji24)))) (ds := []) bl9 (by kernel_rfl) rfl rfl ⟨ar, au⟩ (fun hHeld => ?_); refine with_tabW impl_WordCanon.tab6 impl_WordCanon.bits6 (fun HT_ HW_ => ?_); generalize wr.drew = bL at ah af aa ab HB ar au hHeld ⊢
            refine pu 0 (some 23) bl10 HT_ ?_ rfl rfl (.inl ⟨by rfl, ?_⟩) ?_ ?_ ?_; rotate_left; (intro w'; go_simp; with_reducible rfl); rotate_left; (simp only [Act.put, q5]; rfl)
            refine pu 1 (some 24) bl11 HT_ ?_ rfl rfl (.inl ⟨by rfl, ?_⟩) ?_ ?_ ?_; rotate_left; (intro w'; go_simp; with_reducible rfl); rotate_left; (simp only [Act.put, q5]; rfl)
            refine pu 2 (some 25) bl12 HT_ ?_ rfl rfl (.inl ⟨by rfl, ?_⟩) ?_ ?_ ?_; rotate_left; (intro w'; go_simp; with_reducible rfl); rotate_left; (simp only [Act.put, q5]; rfl)
            refine pu 3 (some 26) bl13 HT_ ?_ rfl rfl (.inl ⟨by rfl, ?_⟩) ?_ ?_ ?_; rotate_left; (intro w'; go_simp; with_reducible rfl); rotate_left; (simp only [Act.put, q5]; rfl)
            refine pu 4 (some 27) bl14 HT_ ?_ rfl rfl (.inl ⟨by rfl, ?_⟩) ?_ ?_ ?_; rotate_left; (intro w'; go_simp; with_reducible rfl); rotate_left; (simp only [Act.put, q5]; rfl)
            refine pu 5 (some 28) bl15 HT_ ?_ rfl rfl (.inl ⟨by rfl, ?_⟩) ?_ ?_ ?_; rotate_left; (intro w'; go_simp; with_reducible rfl); rotate_left; (simp only [Act.put, q5]; rfl)
            refine pu 6 (some 29) bl16 HT_ ?_ rfl rfl (.inl ⟨by rfl, ?_⟩) ?_ ?_ ?_; rotate_left; (intro w'; go_simp; with_reducible rfl); rotate_left; (simp only [Act.put, q5]; rfl)
            refine pu 7 (some 30) bl17 HT_ ?_ rfl rfl (.inl ⟨by rfl, ?_⟩) ?_ ?_ ?_; rotate_left; (intro w'; go_simp; with_reducible rfl); rotate_left; (simp only [Act.put, q5]; rfl)
            refine pu 8 (some 31) bl18 HT_ ?_ rfl rfl (.inl ⟨by rfl, ?_⟩) ?_ ?_ ?_; rotate_left; (intro w'; go_simp; with_reducible rfl); rotate_left; (simp only [Act.put, q5]; rfl)
            refine pu 10 (some 33) bl19 HT_ ?_ rfl rfl (.inl ⟨by rfl, ?_⟩) ?_ ?_ ?_; rotate_left; (intro w'; go_simp; with_reducible rfl); rotate_left; (simp only [Act.put, q5]; rfl)
            refine pu 11 (some 34) bl20 HT_ ?_ rfl rfl (.inl ⟨by rfl, ?_⟩) ?_ ?_ ?_; rotate_left; (intro w'; go_simp; with_reducible rfl); rotate_left; (simp only [Act.put, q5]; rfl)
            refine pu 12 (some 35) bl21 HT_ ?_ rfl rfl (.inl ⟨by rfl, ?_⟩) ?_ ?_ ?_; rotate_left; (intro w'; go_simp; with_reducible rfl); rotate_left; (simp only [Act.put, q5]; rfl)
            refine take_ (i := 9) (N := some 32) (v := ?_) (a' := ?_) bl22 rfl rfl (take_ofW HT_.out HW_.out (by kernel_rfl)) (fun _ _ _ h => h) (Or.inl ⟨by rfl, ?_⟩) hHeld ?_ ?_; rotate_left
            ·rintro w' ⟨s0, s1⟩; go_simp; with_reducible rfl
            rotate_left
            ·simp only [Act.put, q5]; rfl
            refine take_ (i := 13) (N := some 36) (v := ?_) (a' := ?_) bl23 rfl rfl (take_ofW HT_.out HW_.out (by kernel_rfl)) (fun _ _ _ h => h) (Or.inl ⟨by rfl, ?_⟩) hHeld ?_ ?_; rotate_left
            ·rintro w' ⟨s0, s1⟩; go_simp; with_reducible rfl
            rotate_left
            ·simp only [Act.put, q5]; rfl
            refine pu 14 (some 37) bl24 HT_ ?_ rfl rfl (.inl ⟨by rfl, ?_⟩) ?_ ?_ ?_; rotate_left; (intro w'; go_simp; with_reducible rfl); rotate_left; (simp only [Act.put, q5]; rfl)
            refine pu 15 (some 38) bl25 HT_ ?_ rfl rfl (.inl ⟨by rfl, ?_⟩) ?_ ?_ ?_; rotate_left; (intro w'; go_simp; with_reducible rfl); rotate_left; (simp only [Act.put, q5]; rfl)
            refine done_ (done_of HT_.out (by kernel_rfl)) ?_; have cF := an.out; have cG := am.out; have bX : bL.cell? ⟨ac, 0, none⟩ = some (.slice none 0 0) := b1 ab 0; have bY : bL.cell? ⟨ac, 1, none⟩ = some (.slice none 0 0) := b1 ab 1; have bZ := blk_frozen ab.out 0; have ca := blk_frozen ab.out 1
            try go_wp2
            refine bodyPost_ret (results_cell_row rfl _ _ ac 27 #[.slice (some ad239) x3_1.length aM, .slice (some ad240) x4_1.length aT] (0, 0) _ rfl (by (with_reducible repeat (first | refine blk_drewN ?_ _ | refine blk_drew ?_ | refine blk_alloc ?_ _)); refine blk_put (cs := #[.slice (some ad239) x3_1.length aM, .slice none 0 0]) ?_ 1 _ rfl; (with_reducible repeat (first | refine blk_drewN ?_ _ | refine blk_drew ?_ | refine blk_alloc ?_ _)); refine blk_put (cs := #[.slice none 0 0, .slice none 0 0]) ?_ 0 _ rfl; (with_reducible repeat (first | refine blk_drewN ?_ _ | refine blk_drew ?_ | refine blk_alloc ?_ _)); exact ab.out) Try.underlying27 rfl (by kernel_rfl)) rfl ?_; exact ⟨_, _, by first | rfl | (simp [errW_none, errW_some] <;> rfl) | (simp only [← hji21, ← hji24]; first | rfl | (simp [errW_none, errW_some] <;> rfl)) | (simp [*, errW_none, errW_some] <;> rfl), by (with_reducible repeat (first | apply Kd.R_alloc | apply Kd.R_drewN | apply Kd.R_drew)); exact Kd.R_mono (Kd.R_far (p := ⟨ac, 1, none⟩) (Kd.R_far (p := ⟨ac, 0, none⟩) (Kd.R_types ah.out ab.out (by decide)) (fun _ hk => hk.2) (.slice (some ad239) x3_1.length aM)) (fun _ hk => hk.2) (.slice (some ad240) x4_1.length aT)) (fun _ hk => hk.1), by (with_reducible repeat (first | apply Kd.R_alloc | apply Kd.R_drewN | apply Kd.R_drew)); exact Kd.R_mono (Kd.R_far (p := ⟨ac, 1, none⟩) (Kd.R_far (p := ⟨ac, 0, none⟩) (Kd.R_types af.out ab.out (by decide)) (fun _ hk => hk.2) (.slice (some ad239) x3_1.length aM)) (fun _ hk => hk.2) (.slice (some ad240) x4_1.length aT)) (fun _ hk => hk.1), by repeat (first | (with_reducible first | exact HB.out | apply below_alloc | apply pw_below_drewN | apply below_drew1 | refine below_set ?_ aG.out | refine below_set ?_ aH.out) | exact HB.out)⟩
          ·rw [if_neg ba] at H; exact absurd H (by simp)
         ·rw [if_neg aZ] at H; exact absurd H (by simp)
        ·rw [if_neg aY] at H; exact absurd H (by simp)
       ·rw [if_neg aX] at H; exact absurd H (by simp)
      ·rw [if_neg aK] at H; have bA : decide (0 < (x3_1.length : Int)) = false := decide_eq_false aK; have bB : decide (0 < x3_1.length) = false := decide_eq_false (by omega); clear aK; simp only [Option.some.injEq, Prod.mk.injEq] at H; obtain ⟨rfl, rfl⟩ := H
       try go_wp2
       replace ah := Aside0.mk (Kd.R_drew ah.out); replace af := Aside0.mk (Kd.R_drew af.out); replace aa := Aside0.mk (blk_drew aa.out); replace ab := Aside0.mk (blk_drew ab.out); replace HB := Aside0.mk (below_drew1 HB.out); obtain ⟨aN, aO, bw⟩ := Kd.R_slice ah.out
       (first | subst bw | (injection bw with f1_ f2_ f3_; have f4_ := f1_.symm; have f5_ := f3_.symm; clear f1_ f2_ f3_; subst f4_; subst f5_))
       refine start_ (n := 16) (S := fun w' => True) (ds := []) bl9 (by kernel_rfl) rfl rfl trivial (fun hHeld => ?_); refine with_tabW impl_WordCanon.tab6 impl_WordCanon.bits6 (fun HT_ HW_ => ?_); generalize wr.drew = bM at ah af aa ab HB hHeld ⊢
       refine pu 0 (some 23) bl10 HT_ ?_ rfl rfl (.inl ⟨by rfl, ?_⟩) ?_ ?_ ?_; rotate_left; (intro w'; go_simp; with_reducible rfl); rotate_left; (simp only [Act.put, q5]; rfl)
       refine pu 1 (some 24) bl11 HT_ ?_ rfl rfl (.inl ⟨by rfl, ?_⟩) ?_ ?_ ?_; rotate_left; (intro w'; go_simp; with_reducible rfl); rotate_left; (simp only [Act.put, q5]; rfl)
       refine pu 2 (some 25) bl12 HT_ ?_ rfl rfl (.inl ⟨by rfl, ?_⟩) ?_ ?_ ?_; rotate_left; (intro w'; go_simp; with_reducible rfl); rotate_left; (simp only [Act.put, q5]; rfl)
       refine pu 3 (some 26) bl13 HT_ ?_ rfl rfl (.inl ⟨by rfl, ?_⟩) ?_ ?_ ?_; rotate_left; (intro w'; go_simp; with_reducible rfl); rotate_left; (simp only [Act.put, q5]; rfl)
       refine pu 4 (some 27) bl14 HT_ undef rfl rfl (.inr ⟨by rfl, rfl⟩) ?_ ?_ ?_; rotate_left; (simp only [Act.put, q5]; rfl)
       refine pu 5 (some 28) bl15 HT_ undef rfl rfl (.inr ⟨by rfl, rfl⟩) ?_ ?_ ?_; rotate_left; (simp only [Act.put, q5]; rfl)
       refine pu 6 (some 29) bl16 HT_ undef rfl rfl (.inr ⟨by rfl, rfl⟩) ?_ ?_ ?_; rotate_left; (simp only [Act.put, q5]; rfl)
       refine pu 7 (some 30) bl17 HT_ undef rfl rfl (.inr ⟨by rfl, rfl⟩) ?_ ?_ ?_; rotate_left; (simp only [Act.put, q5]; rfl)
       refine pu 8 (some 31) bl18 HT_ undef rfl rfl (.inr ⟨by rfl, rfl⟩) ?_ ?_ ?_; rotate_left; (simp only [Act.put, q5]; rfl)
       refine pu 9 (some 32) bl36 HT_ undef rfl rfl (.inr ⟨by rfl, rfl⟩) ?_ ?_ ?_; rotate_left; (simp only [Act.put, q5]; rfl)
       refine pu 10 (some 33) bl37 HT_ undef rfl rfl (.inr ⟨by rfl, rfl⟩) ?_ ?_ ?_; rotate_left; (simp only [Act.put, q5]; rfl)
       refine pu 11 (some 34) bl38 HT_ undef rfl rfl (.inr ⟨by rfl, rfl⟩) ?_ ?_ ?_; rotate_left; (simp only [Act.put, q5]; rfl)
       refine pu 12 (some 35) bl22 HT_ undef rfl rfl (.inr ⟨by rfl, rfl⟩) ?_ ?_ ?_; rotate_left; (simp only [Act.put, q5]; rfl)
       refine pu 13 (some 36) bl23 HT_ undef rfl rfl (.inr ⟨by rfl, rfl⟩) ?_ ?_ ?_; rotate_left; (simp only [Act.put, q5]; rfl)
       refine pu 14 (some 37) bl24 HT_ undef rfl rfl (.inr ⟨by rfl, rfl⟩) ?_ ?_ ?_; rotate_left; (simp only [Act.put, q5]; rfl)
       refine pu 15 (some 38) bl25 HT_ ?_ rfl rfl (.inl ⟨by rfl, ?_⟩) ?_ ?_ ?_; rotate_left; (intro w'; go_simp; with_reducible rfl); rotate_left; (simp only [Act.put, q5]; rfl)
       refine done_ (done_of HT_.out (by kernel_rfl)) ?_; obtain ⟨aU, aV, bW⟩ := Kd.R_slice af.out; subst bW; have cH := an.out; have cI := am.out; have cb : bM.cell? ⟨ac, 0, none⟩ = some (.slice none 0 0) := b1 ab 0; have cc : bM.cell? ⟨ac, 1, none⟩ = some (.slice none 0 0) := b1 ab 1; have cd := blk_frozen ab.out 0; have ce := blk_frozen ab.out 1
       try go_wp2
       refine bodyPost_ret (results_cell_row rfl _ _ ac 27 #[.slice aN x3_1.length aO, .slice aU x4_1.length aV] (0, 0) _ rfl (by (with_reducible repeat (first | refine blk_drewN ?_ _ | refine blk_drew ?_ | refine blk_alloc ?_ _)); refine blk_put (cs := #[.slice aN x3_1.length aO, .slice none 0 0]) ?_ 1 _ rfl; (with_reducible repeat (first | refine blk_drewN ?_ _ | refine blk_drew ?_ | refine blk_alloc ?_ _)); refine blk_put (cs := #[.slice none 0 0, .slice none 0 0]) ?_ 0 _ rfl; (with_reducible repeat (first | refine blk_drewN ?_ _ | refine blk_drew ?_ | refine blk_alloc ?_ _)); exact ab.out) Try.underlying27 rfl (by kernel_rfl)) rfl ?_; exact ⟨_, _, by first | rfl | (simp [errW_none, errW_some] <;> rfl) | (simp [*, errW_none, errW_some] <;> rfl), by (with_reducible repeat (first | apply Kd.R_alloc | apply Kd.R_drewN | apply Kd.R_drew)); exact Kd.R_mono (Kd.R_far (p := ⟨ac, 1, none⟩) (Kd.R_far (p := ⟨ac, 0, none⟩) (Kd.R_types ah.out ab.out (by decide)) (fun _ hk => hk.2) (.slice aN x3_1.length aO)) (fun _ hk => hk.2) (.slice aU x4_1.length aV)) (fun _ hk => hk.1), by (with_reducible repeat (first | apply Kd.R_alloc | apply Kd.R_drewN | apply Kd.R_drew)); exact Kd.R_mono (Kd.R_far (p := ⟨ac, 1, none⟩) (Kd.R_far (p := ⟨ac, 0, none⟩) (Kd.R_types af.out ab.out (by decide)) (fun _ hk => hk.2) (.slice aN x3_1.length aO)) (fun _ hk => hk.2) (.slice aU x4_1.length aV)) (fun _ hk => hk.1), by repeat (first | (with_reducible first | exact HB.out | apply below_alloc | apply pw_below_drewN | apply below_drew1 | refine below_set ?_ aG.out | refine below_set ?_ aH.out) | exact HB.out)⟩
   ·rw [if_neg c7] at H; exact absurd H (by simp)
  ·rw [if_neg c6] at H; exact absurd H (by simp)
 ·replace c3 := Bool.eq_false_iff.mpr c3; subst c3
  have H1 : (some (([] : List Int), ([] : List Int))) = some (r1, r2) := by rw [if_neg (show ¬ (false = true) by decide)] at H; exact H
  clear H; have H := H1; clear H1; simp only [Option.some.injEq, Prod.mk.injEq] at H; obtain ⟨rfl, rfl⟩ := H
  go_enter Try.func41, Try.ntmps41
  go_wp2_with (first | ((with_reducible refine gate_dst (N := 1) rfl ?_); (try (refine gate_guard (by rfl) ?_; dsimp only)); refine box_event ?hg (N := 1) ?hd (cs := #[.slice A0_0 l0_0.length c0_0, .slice A0_1 l0_1.length c0_1]) (t := 27) ?hr ?_; (case hd => rfl); (case hg => rfl); (case hr => first | (go_simp; done) | (go_simp; rfl)); intro ag hg db hbox hb; have aa := Aside0.mk (hbox); have bx := xG HB hg; have aG := xG HB hg; replace HB := xS HB hb; clear hb hbox hg) | ((with_reducible refine gate_dst (N := 2) rfl ?_); (try (refine gate_guard (by rfl) ?_; dsimp only)); refine box_event ?hg (N := 2) ?hd (cs := #[.slice none 0 0, .slice none 0 0]) (t := 27) ?hr ?_; (case hd => rfl); (case hg => rfl); (case hr => first | (go_simp; done) | (go_simp; rfl)); intro ac hg bN hbox hb; have ab := Aside0.mk (hbox); have bz := xG HB hg; have aH := xG HB hg; replace HB := xS HB hb; have am := xN aa hg; have an := xM aa hg; replace aa := xB aa hb; clear hb hbox hg; have cJ := am.out; have cK := an.out; have cf : bN.cell? ⟨ag, 0, none⟩ = some (.slice A0_0 l0_0.length c0_0) := b1 aa 0; have cg : bN.cell? ⟨ag, 1, none⟩ = some (.slice A0_1 l0_1.length c0_1) := b1 aa 1; have ch := blk_frozen aa.out 0; have ci := blk_frozen aa.out 1) | ((with_reducible refine gate_callee (f := 56) rfl ?_); refine goesL_ (some 7) rfl rfl Try.func56 (by kernel_rfl) rfl #[.agg #[.slice A0_0 l0_0.length c0_0, .slice A0_1 l0_1.length c0_1]] rfl (by (try simp only [m3]); first | done | rfl | (simp only [d2]; rfl)) ?_; (with_reducible refine (impl_isRight.calls k _ _ l0_0 _ _ l0_1 false _ ?side1 ?side2 ?side3 ?side4 A2.out).mono ?_); (case side1 => exact zC (Kd.C_below HR0_0.out HB.out)); (case side2 => exact HC0_0.out); (case side3 => exact zC (Kd.C_below HR0_1.out HB.out)); (case side4 => exact HC0_1.out); rintro e bO ⟨rfl, hb⟩; refine ⟨_, rfl, ?_⟩; replace aa := xB aa hb; replace ab := xB ab hb; replace HB := xS HB hb; (try clear hb); (try clear hb2); (try clear hk); (try clear hi); have cj : bO.cell? ⟨ac, 0, none⟩ = some (.slice none 0 0) := b1 ab 0; have ck : bO.cell? ⟨ac, 1, none⟩ = some (.slice none 0 0) := b1 ab 1; have cl := blk_frozen ab.out 0; have cm := blk_frozen ab.out 1))
  refine bodyPost_ret (results_cell_row rfl _ _ ac 27 #[.slice none 0 0, .slice none 0 0] (0, 0) _ rfl (by (with_reducible repeat (first | refine blk_drewN ?_ _ | refine blk_drew ?_ | refine blk_alloc ?_ _)); refine blk_put (cs := #[.slice none 0 0, .slice none 0 0]) ?_ 1 _ rfl; (with_reducible repeat (first | refine blk_drewN ?_ _ | refine blk_drew ?_ | refine blk_alloc ?_ _)); refine blk_put (cs := #[.slice none 0 0, .slice none 0 0]) ?_ 0 _ rfl; (with_reducible repeat (first | refine blk_drewN ?_ _ | refine blk_drew ?_ | refine blk_alloc ?_ _)); exact ab.out) Try.underlying27 rfl (by kernel_rfl)) rfl ?_; exact ⟨_, _, by first | rfl | (simp [errW_none, errW_some] <;> rfl) | (simp [*, errW_none, errW_some] <;> rfl), by first | exact Kd.R_nil _ _ _ _ _ | exact Kd.N_nil _ _ _ _ _ | exact Kd.V_nil _ _ _ _ _ | exact Kd.Q_nil _ _ _ _ _ | exact Kd.S_nil _ _ _ _ _, by first | exact Kd.R_nil _ _ _ _ _ | exact Kd.N_nil _ _ _ _ _ | exact Kd.V_nil _ _ _ _ _ | exact Kd.Q_nil _ _ _ _ _ | exact Kd.S_nil _ _ _ _ _, by repeat (first | (with_reducible first | exact HB.out | apply below_alloc | apply pw_below_drewN | apply below_drew1 | refine below_set ?_ aG.out | refine below_set ?_ aH.out) | exact HB.out)⟩


/-! ### impl_equalWords: function 65 -/
def impl_equalWords.f (k : Nat) (l0_0 : List Int) (l0_1 : List Int) (l1_0 : List Int) (l1_1 : List Int) : Option (Bool) := (slices_Equal_int_int.f k l0_0 l1_0).bind fun t262 => (if t262 = true then ((slices_Equal_int_int.f k l0_1 l1_1).bind fun t263 => (some t263)) else (some false))
theorem impl_equalWords.mono : ∀ a0 a1 a2 a3 k, LeO (impl_equalWords.f k a0 a1 a2 a3) (impl_equalWords.f (k + 1) a0 a1 a2 a3) := by
 intro a0 a1 a2 a3 k
 unfold impl_equalWords.f
 repeat' first
   | (with_reducible exact slices_Equal_int_int.mono _ _ _)
   | (with_reducible exact LeO.refl _)
   | (with_reducible exact LeO.none _)
   | (with_reducible refine LeO.ite ?_ ?_)
   | (with_reducible refine LeO.bind ?_ (fun _ => ?_))
   | exact slices_Equal_int_int.mono _ _ _
   | exact LeO.none _
   | refine LeO.ite ?_ ?_
   | refine LeO.bind ?_ (fun _ => ?_)
open Go.Proofs.Ythkljpbddddhdaa.Short2 in
set_option maxHeartbeats 8000000 in
set_option maxRecDepth 100000 in
theorem impl_equalWords.calls (k : Nat) (A0_0 : Option Addr) (c0_0 : Nat) (l0_0 : List Int) (A0_1 : Option Addr) (c0_1 : Nat) (l0_1 : List Int) (A1_0 : Option Addr) (c1_0 : Nat) (l1_0 : List Int) (A1_1 : Option Addr) (c1_1 : Nat) (l1_1 : List Int) (r : Bool) (w : World) (hr0_0 : Kd.C (Kd.int .i64) w A0_0 l0_0.length l0_0) (hc0_0 : l0_0.length ≤ c0_0) (hr0_1 : Kd.C (Kd.int .i64) w A0_1 l0_1.length l0_1) (hc0_1 : l0_1.length ≤ c0_1) (hr1_0 : Kd.C (Kd.int .i64) w A1_0 l1_0.length l1_0) (hc1_0 : l1_0.length ≤ c1_0) (hr1_1 : Kd.C (Kd.int .i64) w A1_1 l1_1.length l1_1) (hc1_1 : l1_1.length ≤ c1_1) (h : impl_equalWords.f k l0_0 l0_1 l1_0 l1_1 = some r) :
  Calls Try.prog 65 #[.agg #[.slice A0_0 l0_0.length c0_0, .slice A0_1 l0_1.length c0_1], .agg #[.slice A1_0 l1_0.length c1_0, .slice A1_1 l1_1.length c1_1]] w fun e w' => e = .returned (.bool r) ∧ Below w.heap.size w w' := by
 have hu27 := Try.underlying27; have HR0_0 := Aside0.mk hr0_0; have HC0_0 := Aside0.mk hc0_0; clear hr0_0 hc0_0; have HR0_1 := Aside0.mk hr0_1; have HC0_1 := Aside0.mk hc0_1; clear hr0_1 hc0_1; have HR1_0 := Aside0.mk hr1_0; have HC1_0 := Aside0.mk hc1_0; clear hr1_0 hc1_0; have HR1_1 := Aside0.mk hr1_1; have HC1_1 := Aside0.mk hc1_1; clear hr1_1 hc1_1; have HB := Aside0.mk (Below.refl w.heap.size w); have H : ((slices_Equal_int_int.f k l0_0 l1_0).bind fun ah => (if ah = true then ((slices_Equal_int_int.f k l0_1 l1_1).bind fun ac => (some ac)) else (some false))) = some r := h; clear h; replace H := Option.bind_eq_some_iff.mp H; obtain ⟨ah, an, H⟩ := H; replace H : (if ah = true then ((slices_Equal_int_int.f k l0_1 l1_1).bind fun ac => (some ac)) else (some false)) = some r := H; have A3 := Aside0.mk an; clear an
 by_cases c4 : ah = true
 ·subst c4
  have H1 : ((slices_Equal_int_int.f k l0_1 l1_1).bind fun ac => (some ac)) = some r := by rw [if_pos rfl] at H; exact H
  clear H; have H := H1; clear H1; replace H := Option.bind_eq_some_iff.mp H; obtain ⟨ac, ao, H⟩ := H; replace H : (some ac) = some r := H; have A5 := Aside0.mk ao; clear ao; obtain rfl := Option.some.inj H
  go_enter Try.func65, Try.ntmps65
  go_wp2_with (first | ((with_reducible refine gate_dst (N := 2) rfl ?_); refine box_event ?hg (N := 2) ?hd (cs := #[.slice A0_0 l0_0.length c0_0, .slice A0_1 l0_1.length c0_1]) (t := 27) ?hr ?_; (case hd => rfl); (case hg => rfl); (case hr => first | (go_simp; done) | (go_simp; rfl)); intro af hg w6 hbox hb; have aa := Aside0.mk (hbox); have al := xG HB hg; have ai := xG HB hg; replace HB := xS HB hb; clear hb hbox hg) | ((with_reducible refine gate_dst (N := 3) rfl ?_); refine box_event ?hg (N := 3) ?hd (cs := #[.slice A1_0 l1_0.length c1_0, .slice A1_1 l1_1.length c1_1]) (t := 27) ?hr ?_; (case hd => rfl); (case hg => rfl); (case hr => first | (go_simp; done) | (go_simp; rfl)); intro ag hg w7 hbox hb; have ab := Aside0.mk (hbox); have am := xG HB hg; have aj := xG HB hg; replace HB := xS HB hb; have ad := xN aa hg; have ae := xM aa hg; replace aa := xB aa hb; clear hb hbox hg; have aJ := ad.out; have aK := ae.out; have aD : w7.cell? ⟨af, 0, none⟩ = some (.slice A0_0 l0_0.length c0_0) := b1 aa 0; have aE : w7.cell? ⟨af, 1, none⟩ = some (.slice A0_1 l0_1.length c0_1) := b1 aa 1; have aF := blk_frozen aa.out 0; have aG := blk_frozen aa.out 1; have ap : w7.cell? ⟨ag, 0, none⟩ = some (.slice A1_0 l1_0.length c1_0) := b1 ab 0; have aq : w7.cell? ⟨ag, 1, none⟩ = some (.slice A1_1 l1_1.length c1_1) := b1 ab 1; have ar := blk_frozen ab.out 0; have au := blk_frozen ab.out 1) | ((with_reducible refine gate_callee (f := 75) rfl ?_); refine goesL_ (some 9) rfl rfl Try.func75 (by kernel_rfl) rfl #[.slice A0_0 l0_0.length c0_0, .slice A1_0 l1_0.length c1_0] rfl (by (try simp only [m3]); first | done | rfl | (simp only [d2]; rfl)) ?_; (with_reducible refine (slices_Equal_int_int.calls k _ _ l0_0 _ _ l1_0 true _ ?side1 ?side2 ?side3 ?side4 A3.out).mono ?_); (case side1 => exact zC (Kd.C_below HR0_0.out HB.out)); (case side2 => exact HC0_0.out); (case side3 => exact zC (Kd.C_below HR1_0.out HB.out)); (case side4 => exact HC1_0.out); rintro e w' ⟨rfl, ⟨nd, rfl⟩⟩; refine ⟨_, rfl, ?_⟩) | (go_at_call 75; (with_reducible refine (slices_Equal_int_int.calls k _ _ l0_1 _ _ l1_1 ac _ ?side1 ?side2 ?side3 ?side4 A5.out).mono ?_); (case side1 => repeat (first | exact (Kd.C_below HR0_1.out (zS HB.out)) | (with_reducible refine Kd.C_alloc ?_ _) | (with_reducible refine Kd.C_drewN ?_ _) | (with_reducible refine Kd.C_drew ?_))); (case side2 => exact HC0_1.out); (case side3 => repeat (first | exact (Kd.C_below HR1_1.out (zS HB.out)) | (with_reducible refine Kd.C_alloc ?_ _) | (with_reducible refine Kd.C_drewN ?_ _) | (with_reducible refine Kd.C_drew ?_))); (case side4 => exact HC1_1.out); rintro e w' ⟨rfl, ⟨nd, rfl⟩⟩))
  go_ret; exact ⟨by first | rfl | (simp [errW_none, errW_some] <;> rfl) | (simp [*, errW_none, errW_some] <;> rfl), by repeat (first | (with_reducible first | exact HB.out | apply below_alloc | apply pw_below_drewN | apply below_drew1 | refine below_set ?_ ai.out | refine below_set ?_ aj.out) | exact HB.out)⟩
 ·replace c4 := Bool.eq_false_iff.mpr c4; subst c4
  have H1 : (some false) = some r := by rw [if_neg (show ¬ (false = true) by decide)] at H; exact H
  clear H; have H := H1; clear H1; obtain rfl := Option.some.inj H
  go_enter Try.func65, Try.ntmps65
  go_wp2_with (first | ((with_reducible refine gate_dst (N := 2) rfl ?_); refine box_event ?hg (N := 2) ?hd (cs := #[.slice A0_0 l0_0.length c0_0, .slice A0_1 l0_1.length c0_1]) (t := 27) ?hr ?_; (case hd => rfl); (case hg => rfl); (case hr => first | (go_simp; done) | (go_simp; rfl)); intro af hg aL hbox hb; have aa := Aside0.mk (hbox); have al := xG HB hg; have ai := xG HB hg; replace HB := xS HB hb; clear hb hbox hg) | ((with_reducible refine gate_dst (N := 3) rfl ?_); refine box_event ?hg (N := 3) ?hd (cs := #[.slice A1_0 l1_0.length c1_0, .slice A1_1 l1_1.length c1_1]) (t := 27) ?hr ?_; (case hd => rfl); (case hg => rfl); (case hr => first | (go_simp; done) | (go_simp; rfl)); intro ag hg ak hbox hb; have ab := Aside0.mk (hbox); have am := xG HB hg; have aj := xG HB hg; replace HB := xS HB hb; have ad := xN aa hg; have ae := xM aa hg; replace aa := xB aa hb; clear hb hbox hg; have aH := ad.out; have aI := ae.out; have av : ak.cell? ⟨af, 0, none⟩ = some (.slice A0_0 l0_0.length c0_0) := b1 aa 0; have aw : ak.cell? ⟨af, 1, none⟩ = some (.slice A0_1 l0_1.length c0_1) := b1 aa 1; have ax := blk_frozen aa.out 0; have ay := blk_frozen aa.out 1; have az : ak.cell? ⟨ag, 0, none⟩ = some (.slice A1_0 l1_0.length c1_0) := b1 ab 0; have aA : ak.cell? ⟨ag, 1, none⟩ = some (.slice A1_1 l1_1.length c1_1) := b1 ab 1; have aB := blk_frozen ab.out 0; have aC := blk_frozen ab.out 1) | ((with_reducible refine gate_callee (f := 75) rfl ?_); refine goesL_ (some 9) rfl rfl Try.func75 (by kernel_rfl) rfl #[.slice A0_0 l0_0.length c0_0, .slice A1_0 l1_0.length c1_0] rfl (by (try simp only [m3]); first | done | rfl | (simp only [d2]; rfl)) ?_; (with_reducible refine (slices_Equal_int_int.calls k _ _ l0_0 _ _ l1_0 false _ ?side1 ?side2 ?side3 ?side4 A3.out).mono ?_); (case side1 => exact zC (Kd.C_below HR0_0.out HB.out)); (case side2 => exact HC0_0.out); (case side3 => exact zC (Kd.C_below HR1_0.out HB.out)); (case side4 => exact HC1_0.out); rintro e w' ⟨rfl, ⟨nd, rfl⟩⟩; refine ⟨_, rfl, ?_⟩))
  go_ret; exact ⟨by first | rfl | (simp [errW_none, errW_some] <;> rfl) | (simp [*, errW_none, errW_some] <;> rfl), by repeat (first | (with_reducible first | exact HB.out | apply below_alloc | apply pw_below_drewN | apply below_drew1 | refine below_set ?_ ai.out | refine below_set ?_ aj.out) | exact HB.out)⟩

end Go.Proofs.Ythkljpbddddhdaa.MFnJoin3
