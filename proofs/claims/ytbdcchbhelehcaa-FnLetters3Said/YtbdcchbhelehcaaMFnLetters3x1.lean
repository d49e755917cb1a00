-- Written by a program of this session, out of Lean's print of the translation. Not trusted: Lean checks it.
import Derived.Test.YtbdcchbhelehcaaMFnLetters3x0
namespace Go.Proofs.Ytbdcchbhelehcaa.MFnLetters3
open Go.RowKit Go.Proofs.YtbdcchbhelehcaaW.PrintWords Go.Proofs.YtbdcchbhelehcaaW.PrintLast Go.Proofs.YtbdcchbhelehcaaW.PrintMore Go.Proofs.Ytbdcchbhelehcaa.Short6
attribute [local go_sem] max2_int min2_int max_two min_two max_three min_three max_four min_four   -- for this text's walks alone
set_option linter.unusedVariables false
set_option linter.unusedSimpArgs false

/-! ### laws_big: function 4 -/
def laws_big.f (l0 : List Int) : Option (Bool) := some (decide ((l0.length : Int) > 1048576))
set_option maxHeartbeats 8000000 in
set_option maxRecDepth 100000 in
theorem laws_big.calls (A0 : Option Addr) (c0 : Nat) (l0 : List Int) (r : Bool) (w : World) (hr0 : Kd.C (Kd.int .u8) w A0 l0.length l0) (hc0 : l0.length ≤ c0) (h : laws_big.f l0 = some r) :
    Calls Try.prog 4 #[.slice A0 l0.length c0] w fun e w' => e = .returned (.bool r) ∧ Drawn0 w w' := by
  have HR0 := Aside0.mk hr0
  have HC0 := Aside0.mk hc0
  clear hr0 hc0
  have H : (some (decide ((l0.length : Int) > 1048576))) = some r := h
  clear h
  obtain rfl := Option.some.inj H
  go_enter Try.func4, Try.ntmps4
  go_wp2
  go_ret
  exact ⟨by first | rfl | (simp; done) | (simp [*]; done), by repeat (first | exact Drawn0.refl _ | apply Drawn0.step)⟩


/-- A state of type 54 at block g of W; what its slices lead to came in by w0. -/
def IsS54 (w0 W : World) (g : Nat) (f0 : List Int) (f1 : Int) (f2 : Int) : Prop := ∃ A0 c0, W.heap[g]? = some (.cells #[.slice A0 f0.length c0, .int .i64 f1, .int .i64 f2] 54 (0, 0)) ∧ w0.heap.size ≤ g ∧ Kd.C (Kd.int .u8) w0 A0 f0.length f0
theorem IsS54.grown {w0 W : World} {g : Nat} {f0 : List Int} {f1 : Int} {f2 : Int} {W1 : World} {row : Option Nat} (h : IsS54 w0 W g f0 f1 f2) (hw : W.grownBy W1 row) (hne : some g ≠ row) : IsS54 w0 W1 g f0 f1 f2 := by
 obtain ⟨A0, c0, hb, hg, hr0⟩ := h
 exact ⟨A0, c0, blk_grown hb hw hne, hg, hr0⟩
theorem IsS54.own_neN {w0 W : World} {g : Nat} {f0 : List Int} {f1 : Int} {f2 : Int} {α : Type} {d : Kd α} {e : Nat} {base : Nat} {ok : Nat → Prop} {v : Value} {xs : List α} (h : IsS54 w0 W g f0 f1 f2) (ho : Kd.N d e W base ok v xs) (ht : e ≠ 54) : some g ≠ v.ownBlock := by
 obtain ⟨A0, c0, hb, hg, hr0⟩ := h
 exact Kd.N_ne ho hb ht
theorem IsS54.fresh {w0 W : World} {g : Nat} {f0 : List Int} {f1 : Int} {f2 : Int} (h : IsS54 w0 W g f0 f1 f2) : ∀ k, W.heap.size ≤ k → k ≠ g := by
 obtain ⟨A0, c0, hb, hg, hr0⟩ := h
 exact Kd.freshB hb
theorem IsS54.kept {w0 W : World} {g : Nat} {f0 : List Int} {f1 : Int} {f2 : Int} {W1 : World} {S : Nat → Prop} (h : IsS54 w0 W g f0 f1 f2) (hk : Kept W W1 S) (hne : ¬ S g) : IsS54 w0 W1 g f0 f1 f2 := by
 obtain ⟨A0, c0, hb, hg, hr0⟩ := h
 exact ⟨A0, c0, blk_kept hb hk hne, hg, hr0⟩
theorem IsS54.below {w0 W : World} {g : Nat} {f0 : List Int} {f1 : Int} {f2 : Int} {W1 : World} (h : IsS54 w0 W g f0 f1 f2) (hw : Below W.heap.size W W1) : IsS54 w0 W1 g f0 f1 f2 := h.grown (grown_of_below hw none) (by simp)
theorem IsS54.alloc {w0 W : World} {g : Nat} {f0 : List Int} {f1 : Int} {f2 : Int} (h : IsS54 w0 W g f0 f1 f2) (o : Obj) : IsS54 w0 (W.alloc o) g f0 f1 f2 := h.below (below_alloc (Below.refl _ _) o)
theorem IsS54.drewN {w0 W : World} {g : Nat} {f0 : List Int} {f1 : Int} {f2 : Int} (h : IsS54 w0 W g f0 f1 f2) (m : Nat) : IsS54 w0 (W.drewN m) g f0 f1 f2 := h
theorem IsS54.drew {w0 W : World} {g : Nat} {f0 : List Int} {f1 : Int} {f2 : Int} (h : IsS54 w0 W g f0 f1 f2) : IsS54 w0 W.drew g f0 f1 f2 := h
theorem IsS54.at_ {w0 W : World} {g : Nat} {f0 : List Int} {f1 : Int} {f2 : Int} {w' : World} {m : Nat} (hq : W.drewN m = w') (h : IsS54 w0 W g f0 f1 f2) : IsS54 w0 w' g f0 f1 f2 := by subst hq; exact IsS54.drewN h m
theorem IsS54.apart {w0 W : World} {g : Nat} {f0 : List Int} {f1 : Int} {f2 : Int} {α : Type} {d : Kd α} {e : Nat} {base : Nat} {ok : Nat → Prop} {v : Value} {xs : List α} (h : IsS54 w0 W g f0 f1 f2) (ho : d.R e W base ok v xs) (ht : ∀ q, q ∈ e :: d.E → q ≠ 54) : d.R e W base (fun k => ok k ∧ k ≠ g) v xs := by
 obtain ⟨A0, c0, hb, hg, hr0⟩ := h
 exact Kd.R_types ho hb ht
theorem IsS54.own_ne {w0 W : World} {g : Nat} {f0 : List Int} {f1 : Int} {f2 : Int} {α : Type} {d : Kd α} {e : Nat} {base : Nat} {ok : Nat → Prop} {v : Value} {xs : List α} (h : IsS54 w0 W g f0 f1 f2) (ho : d.R e W base ok v xs) (ht : e ≠ 54) : some g ≠ v.ownBlock := by
 obtain ⟨A0, c0, hb, hg, hr0⟩ := h
 exact Kd.R_ne ho hb ht
theorem IsS54.apartQ {w0 W : World} {g : Nat} {f0 : List Int} {f1 : Int} {f2 : Int} {α : Type} {d : Kd α} {e : Nat} {base : Nat} {ok : Nat → Prop} {v : Value} {xs : List α} (h : IsS54 w0 W g f0 f1 f2) (ho : d.Q e W base ok v xs) (ht : ∀ q, q ∈ e :: d.E → q ≠ 54) : d.Q e W base (fun k => ok k ∧ k ≠ g) v xs := by
 obtain ⟨A0, c0, hb, hg, hr0⟩ := h
 exact Kd.Q_types ho hb ht
theorem IsS54.own_neQ {w0 W : World} {g : Nat} {f0 : List Int} {f1 : Int} {f2 : Int} {α : Type} {d : Kd α} {e : Nat} {base : Nat} {ok : Nat → Prop} {v : Value} {xs : List α} (h : IsS54 w0 W g f0 f1 f2) (ho : d.Q e W base ok v xs) (ht : e ≠ 54) : some g ≠ v.ownBlock := by
 obtain ⟨A0, c0, hb, hg, hr0⟩ := h
 exact Kd.Q_ne ho hb ht
theorem IsS54.apartS {w0 W : World} {g : Nat} {f0 : List Int} {f1 : Int} {f2 : Int} {α : Type} {d : Kd α} {e : Nat} {base : Nat} {ok : Nat → Prop} {v : Value} {xs : List α} (h : IsS54 w0 W g f0 f1 f2) (ho : d.S e W base ok v xs) (ht : ∀ q, q ∈ e :: d.E → q ≠ 54) : d.S e W base (fun k => ok k ∧ k ≠ g) v xs := by
 obtain ⟨A0, c0, hb, hg, hr0⟩ := h
 exact Kd.S_types ho hb ht
theorem IsS54.own_neS {w0 W : World} {g : Nat} {f0 : List Int} {f1 : Int} {f2 : Int} {α : Type} {d : Kd α} {e : Nat} {base : Nat} {ok : Nat → Prop} {v : Value} {xs : List α} (h : IsS54 w0 W g f0 f1 f2) (ho : d.S e W base ok v xs) (ht : e ≠ 54) : some g ≠ v.ownBlock := by
 obtain ⟨A0, c0, hb, hg, hr0⟩ := h
 exact Kd.S_ne ho hb ht
theorem IsS54.lt {w0 W : World} {g : Nat} {f0 : List Int} {f1 : Int} {f2 : Int} (h : IsS54 w0 W g f0 f1 f2) : g < W.heap.size := by
 obtain ⟨A0, c0, hb, hg, hr0⟩ := h
 exact blk_lt hb
theorem IsS54.ge {w0 W : World} {g : Nat} {f0 : List Int} {f1 : Int} {f2 : Int} (h : IsS54 w0 W g f0 f1 f2) : w0.heap.size ≤ g := by
 obtain ⟨A0, c0, hb, hg, hr0⟩ := h
 exact hg
theorem IsS54.ne_blk {w0 W : World} {g : Nat} {f0 : List Int} {f1 : Int} {f2 : Int} {a : Nat} {cs : Array Value} {t : TypeId} {fr : Nat × Nat} (h : IsS54 w0 W g f0 f1 f2) (hb2 : W.heap[a]? = some (.cells cs t fr)) (ht : t ≠ 54) : g ≠ a := by
 obtain ⟨A0, c0, hb, hg, hr0⟩ := h
 rintro rfl
 rw [hb] at hb2
 injection hb2 with hb2
 injection hb2 with _ ht2
 exact ht ht2.symm
theorem IsS54.far {w0 W : World} {g : Nat} {f0 : List Int} {f1 : Int} {f2 : Int} {p : Addr} (h : IsS54 w0 W g f0 f1 f2) (hne : g ≠ p.block) (u : Value) : IsS54 w0 (W.setCell p u) g f0 f1 f2 := by
 obtain ⟨A0, c0, hb, hg, hr0⟩ := h
 exact ⟨A0, c0, blk_far hb hne u, hg, hr0⟩
theorem cellS54_0 {W : World} {g : Nat} {A0 : Option Addr} {c0 : Nat} {f0 : List Int} {f1 : Int} {f2 : Int} (h : W.heap[g]? = some (.cells #[.slice A0 f0.length c0, .int .i64 f1, .int .i64 f2] 54 (0, 0))) : W.cell? ⟨g, 0, none⟩ = some (.slice A0 f0.length c0) := (blk_cell h 0).trans rfl
theorem cellS54_1 {W : World} {g : Nat} {A0 : Option Addr} {c0 : Nat} {f0 : List Int} {f1 : Int} {f2 : Int} (h : W.heap[g]? = some (.cells #[.slice A0 f0.length c0, .int .i64 f1, .int .i64 f2] 54 (0, 0))) : W.cell? ⟨g, 1, none⟩ = some (.int .i64 f1) := (blk_cell h 1).trans rfl
theorem IsS54.set_1 {w0 W : World} {g : Nat} {f0 : List Int} {f1 : Int} {f2 : Int} (h : IsS54 w0 W g f0 f1 f2) (x : Int) : IsS54 w0 (W.setCell ⟨g, 1, none⟩ (.int .i64 x)) g f0 x f2 := by
 obtain ⟨A0, c0, hb, hg, hr0⟩ := h
 exact ⟨A0, c0, by simpa using blk_set hb 1 (.int .i64 x), hg, hr0⟩
theorem cellS54_2 {W : World} {g : Nat} {A0 : Option Addr} {c0 : Nat} {f0 : List Int} {f1 : Int} {f2 : Int} (h : W.heap[g]? = some (.cells #[.slice A0 f0.length c0, .int .i64 f1, .int .i64 f2] 54 (0, 0))) : W.cell? ⟨g, 2, none⟩ = some (.int .i64 f2) := (blk_cell h 2).trans rfl
theorem IsS54.set_2 {w0 W : World} {g : Nat} {f0 : List Int} {f1 : Int} {f2 : Int} (h : IsS54 w0 W g f0 f1 f2) (x : Int) : IsS54 w0 (W.setCell ⟨g, 2, none⟩ (.int .i64 x)) g f0 f1 x := by
 obtain ⟨A0, c0, hb, hg, hr0⟩ := h
 exact ⟨A0, c0, by simpa using blk_set hb 2 (.int .i64 x), hg, hr0⟩
theorem IsS54.new (w0 W : World) (A0 : Option Addr) (c0 : Nat) (f0 : List Int) (f1 : Int) (f2 : Int) (hB : Below w0.heap.size w0 W) (hr0 : Kd.C (Kd.int .u8) w0 A0 f0.length f0) : IsS54 w0 (W.alloc (.cells #[.slice A0 f0.length c0, .int .i64 f1, .int .i64 f2] 54)) W.heap.size f0 f1 f2 := ⟨A0, c0, by simpa using heap_alloc_new W _, hB.size, hr0⟩

/-! ### spec_l1New: function 20 -/
def spec_l1New.l0 : Nat → List Int → Int → Int → Option (List Int × Int × Int)
 | 0, _, _, _ => none
 | k + 1, x0, x3, x4 => if x4 < (x0.length : Int) then (if x4 < 4000 then (if 0 ≤ x4 then (spec_l1New.l0 k x0 (Go.bits .and .i64 (wrap64 ((wrap64 ((wrap64 (x3 * 131)) + (wrap64 (rd x0 x4)))) + 7)) 1073741823) (wrap64 (x4 + 1))) else (none)) else (some (x0, 0, x3))) else (some (x0, 0, x3))
def spec_l1New.f (k : Nat) (l0 : List Int) : Option (List Int × Int × Int) := spec_l1New.l0 k l0 (wrap64 (10277 + (l0.length : Int))) 0
theorem spec_l1New.mono_l : ∀ k, (∀ y0 y1 y2, LeO (spec_l1New.l0 k y0 y1 y2) (spec_l1New.l0 (k + 1) y0 y1 y2))
 | 0 => fun _ _ _ r h => by simp [spec_l1New.l0] at h
 | k + 1 => by
  have ih0 := spec_l1New.mono_l k
  ·intro y0 y1 y2
   unfold spec_l1New.l0
   repeat' first
   | (with_reducible exact ih0 _ _ _)
   | (with_reducible exact LeO.refl _)
   | (with_reducible exact LeO.none _)
   | (with_reducible refine LeO.ite ?_ ?_)
   | (with_reducible refine LeO.bind ?_ (fun _ => ?_))
   | exact ih0 _ _ _
   | exact LeO.none _
   | refine LeO.ite ?_ ?_
   | refine LeO.bind ?_ (fun _ => ?_)
theorem spec_l1New.mono : ∀ a0 k, LeO (spec_l1New.f k a0) (spec_l1New.f (k + 1) a0) := by
 intro a0 k
 have ih0 := spec_l1New.mono_l k
 unfold spec_l1New.f
 repeat' first
   | (with_reducible exact ih0 _ _ _)
   | (with_reducible exact LeO.refl _)
   | (with_reducible exact LeO.none _)
   | (with_reducible refine LeO.ite ?_ ?_)
   | (with_reducible refine LeO.bind ?_ (fun _ => ?_))
   | exact ih0 _ _ _
   | exact LeO.none _
   | refine LeO.ite ?_ ?_
   | refine LeO.bind ?_ (fun _ => ?_)
open Go.Proofs.Ytbdcchbhelehcaa.Short2 in
set_option maxHeartbeats 8000000 in
set_option maxRecDepth 100000 in
theorem spec_l1New.calls (k : Nat) (A0 : Option Addr) (c0 : Nat) (l0 : List Int) (r1 : List Int) (r2 : Int) (r3 : Int) (w0 w : World) (hB : Below w0.heap.size w0 w) (hr0 : Kd.C (Kd.int .u8) w0 A0 l0.length l0) (hc0 : l0.length ≤ c0) (h : spec_l1New.f k l0 = some (r1, r2, r3)) :
  Calls Try.prog 20 #[.slice A0 l0.length c0] w fun e w' => ∃ g_ : Nat, e = .returned (.pointer (some ⟨g_, 0, none⟩)) ∧ IsS54 w0 w' g_ r1 r2 r3 ∧ Below w0.heap.size w0 w' ∧ Below w.heap.size w w' := by
 have hu54 := Try.underlying54; have HR0 := Aside0.mk hr0; have HC0 := Aside0.mk hc0; clear hr0 hc0; have HBW := Aside0.mk (Below.refl w.heap.size w); have HW0 := Aside0.mk hB.size; have HB := Aside0.mk hB; clear hB; have H : (spec_l1New.l0 k l0 (wrap64 (10277 + (l0.length : Int))) 0) = some (r1, r2, r3) := h; clear h; have H' := Aside0.mk H; clear H
 go_enter Try.func20, Try.ntmps20
 go_wp2
 go_loopg [3, 4] k (fun kq v3 v4 w' => ∃ (x3_1 : Int) (x4_1 : Int), v3 = .int .i64 x3_1 ∧ v4 = .int .i64 x4_1 ∧ Aside0 (spec_l1New.l0 kq l0 x3_1 x4_1 = some (r1, r2, r3)) ∧ Aside0 (kq ≤ k) ∧ Aside0 (Below w0.heap.size w0 w') ∧ Aside0 (Below w.heap.size w w'))
 case atStart => exact ⟨(wrap64 (10277 + (l0.length : Int))), (0), vv, vv, H', ⟨Nat.le_refl _⟩, ⟨zS HB.out⟩, ⟨by repeat (first | (with_reducible first | exact HBW.out | apply below_alloc | apply pw_below_drewN | apply below_drew1) | exact HBW.out)⟩⟩
 case round =>
  clear H'; obtain ⟨x3_1, x4_1, rfl, rfl, HA, HK1, HB, HBW⟩ := hrel
  cases gk with
  | zero => exact absurd HA.out (by simp [spec_l1New.l0])
  | succ k1 =>
   have H := HA.out; clear HA; simp only [spec_l1New.l0] at H
   by_cases c2 : x4_1 < (l0.length : Int)
   ·rw [if_pos c2] at H; have ap : decide (x4_1 < (l0.length : Int)) = true := decide_eq_true c2; clear c2
    by_cases c3 : x4_1 < 4000
    ·rw [if_pos c3] at H; have aq : decide (x4_1 < 4000) = true := decide_eq_true c3; clear c3
     by_cases c4 : 0 ≤ x4_1
     ·rw [if_pos c4] at H; have ar : decide (0 ≤ x4_1) = true := decide_eq_true c4; clear c4; have H' := Aside0.mk H; clear H; have ai : 0 ≤ (x4_1 : Int) := oD; have q101 : x4_1 < (l0.length : Int) := oD; obtain ⟨ad101, e101, ac⟩ := Kd.at_int HR0.out x4_1 ai q101
      cases e101
      replace ac := pw_cell_below HB.out ac; replace ai := eq_true ai; replace q101 := eq_true q101
      go_wp2
      go_roundg k1
      case measure => have := HK1.out; omega
      case rel => exact ⟨(Go.bits .and .i64 (wrap64 ((wrap64 ((wrap64 (x3_1 * 131)) + (wrap64 (rd l0 x4_1)))) + 7)) 1073741823), (wrap64 (x4_1 + 1)), vv, vv, H', ⟨by have := HK1.out; omega⟩, ⟨zS HB.out⟩, ⟨by repeat (first | (with_reducible first | exact HBW.out | apply below_alloc | apply pw_below_drewN | apply below_drew1) | exact HBW.out)⟩⟩
     ·rw [if_neg c4] at H; exact absurd H (by simp)
    ·rw [if_neg c3] at H; have aq : decide (x4_1 < 4000) = false := decide_eq_false c3; clear c3; simp only [Option.some.injEq, Prod.mk.injEq] at H; obtain ⟨rfl, rfl, rfl⟩ := H
     go_wp2_with (first | ((with_reducible refine gate_dst (N := 31) rfl ?_); refine bx_ 31 #[.slice A0 l0.length c0, .int .i64 0, .int .i64 x3_1] 54 ?_; intro aa hg w5 hbox hb; have ad := Aside0.mk (below_step HBW.out hb); have ae := xS HB hb; have af := Aside0.mk (hbox); have ag := Aside0.mk ((by rw [hg]; exact (below_size (by repeat (first | (with_reducible first | exact HBW.out | apply below_alloc | apply pw_below_drewN | apply below_drew1) | exact HBW.out))) : w.heap.size ≤ aa)); have ah := Aside0.mk ((Nat.le_trans HW0.out (by rw [hg]; exact (below_size (by repeat (first | (with_reducible first | exact HBW.out | apply below_alloc | apply pw_below_drewN | apply below_drew1) | exact HBW.out))) : w.heap.size ≤ aa) : w0.heap.size ≤ aa)); clear HBW; clear HB; have HBW := ad; have HB := ae; have al := af; have am := ag; have aj := ah; clear ad ae af ag ah; clear hb hbox hg))
     go_ret; exact ⟨_, rfl, (show IsS54 w0 _ aa l0 0 x3_1 from ⟨_, _, by (with_reducible repeat (first | refine blk_drewN ?_ _ | refine blk_drew ?_ | refine blk_alloc ?_ _)); exact al.out, aj.out, HR0.out⟩), by repeat (first | (with_reducible first | exact HB.out | apply below_alloc | apply pw_below_drewN | apply below_drew1 | refine below_set ?_ aj.out) | exact HB.out), by repeat (first | (with_reducible first | exact HBW.out | apply below_alloc | apply pw_below_drewN | apply below_drew1 | refine below_set ?_ am.out) | exact HBW.out)⟩
   ·rw [if_neg c2] at H; have ap : decide (x4_1 < (l0.length : Int)) = false := decide_eq_false c2; clear c2; simp only [Option.some.injEq, Prod.mk.injEq] at H; obtain ⟨rfl, rfl, rfl⟩ := H
    go_wp2_with (first | ((with_reducible refine gate_dst (N := 31) rfl ?_); refine bx_ 31 #[.slice A0 l0.length c0, .int .i64 0, .int .i64 x3_1] 54 ?_; intro ab hg w6 hbox hb; have ad := Aside0.mk (below_step HBW.out hb); have ae := xS HB hb; have af := Aside0.mk (hbox); have ag := Aside0.mk ((by rw [hg]; exact (below_size (by repeat (first | (with_reducible first | exact HBW.out | apply below_alloc | apply pw_below_drewN | apply below_drew1) | exact HBW.out))) : w.heap.size ≤ ab)); have ah := Aside0.mk ((Nat.le_trans HW0.out (by rw [hg]; exact (below_size (by repeat (first | (with_reducible first | exact HBW.out | apply below_alloc | apply pw_below_drewN | apply below_drew1) | exact HBW.out))) : w.heap.size ≤ ab) : w0.heap.size ≤ ab)); clear HBW; clear HB; have HBW := ad; have HB := ae; have an := af; have ao := ag; have ak := ah; clear ad ae af ag ah; clear hb hbox hg))
    go_ret; exact ⟨_, rfl, (show IsS54 w0 _ ab l0 0 x3_1 from ⟨_, _, by (with_reducible repeat (first | refine blk_drewN ?_ _ | refine blk_drew ?_ | refine blk_alloc ?_ _)); exact an.out, ak.out, HR0.out⟩), by repeat (first | (with_reducible first | exact HB.out | apply below_alloc | apply pw_below_drewN | apply below_drew1 | refine below_set ?_ ak.out) | exact HB.out), by repeat (first | (with_reducible first | exact HBW.out | apply below_alloc | apply pw_below_drewN | apply below_drew1 | refine below_set ?_ ao.out) | exact HBW.out)⟩


/-! ### spec_l1Byte: function 48 -/
def spec_l1Byte.f (s0_0 : List Int) (s0_1 : Int) (s0_2 : Int) : Option (Int × Int × Int) := if s0_1 < (s0_0.length : Int) then (if 0 ≤ s0_1 then (some (Go.bits .and .i64 (wrap64 ((Go.bits .and .i64 (Go.bits .xor .i64 ((wrap64 ((wrap64 (s0_2 * 6364136223846793005)) + 1442695040888963407)) / 8589934592) ((wrap64 ((wrap64 (s0_2 * 6364136223846793005)) + 1442695040888963407)) / 35184372088832)) 255) + (wrap64 (rd s0_0 s0_1)))) 255, wrap64 (s0_1 + 1), wrap64 ((wrap64 (s0_2 * 6364136223846793005)) + 1442695040888963407))) else (none)) else (some (Go.bits .and .i64 (Go.bits .xor .i64 ((wrap64 ((wrap64 (s0_2 * 6364136223846793005)) + 1442695040888963407)) / 8589934592) ((wrap64 ((wrap64 (s0_2 * 6364136223846793005)) + 1442695040888963407)) / 35184372088832)) 255, s0_1, wrap64 ((wrap64 (s0_2 * 6364136223846793005)) + 1442695040888963407)))
open Go.Proofs.Ytbdcchbhelehcaa.Short2 in
set_option maxHeartbeats 8000000 in
set_option maxRecDepth 100000 in
theorem spec_l1Byte.calls (g : Nat) (s0_0 : List Int) (s0_1 : Int) (s0_2 : Int) (r1 : Int) (r2 : Int) (r3 : Int) (w0 w : World) (hI : IsS54 w0 w g s0_0 s0_1 s0_2) (hB : Below w0.heap.size w0 w) (h : spec_l1Byte.f s0_0 s0_1 s0_2 = some (r1, r2, r3)) :
  Calls Try.prog 48 #[.pointer (some ⟨g, 0, none⟩)] w fun e w' => e = .returned (.int .i64 r1) ∧ IsS54 w0 w' g s0_0 r2 r3 ∧ Below w0.heap.size w0 w' ∧ KeepBut w w' g none := by
 have HI0 := Aside0.mk hI; have HK := Aside0.mk (KeepBut.refl w g none); have HL := Aside0.mk hB.size; clear hI; have HW0 := Aside0.mk hB.size; have HB := Aside0.mk hB; clear hB; have H : (if s0_1 < (s0_0.length : Int) then (if 0 ≤ s0_1 then (some (Go.bits .and .i64 (wrap64 ((Go.bits .and .i64 (Go.bits .xor .i64 ((wrap64 ((wrap64 (s0_2 * 6364136223846793005)) + 1442695040888963407)) / 8589934592) ((wrap64 ((wrap64 (s0_2 * 6364136223846793005)) + 1442695040888963407)) / 35184372088832)) 255) + (wrap64 (rd s0_0 s0_1)))) 255, wrap64 (s0_1 + 1), wrap64 ((wrap64 (s0_2 * 6364136223846793005)) + 1442695040888963407))) else (none)) else (some (Go.bits .and .i64 (Go.bits .xor .i64 ((wrap64 ((wrap64 (s0_2 * 6364136223846793005)) + 1442695040888963407)) / 8589934592) ((wrap64 ((wrap64 (s0_2 * 6364136223846793005)) + 1442695040888963407)) / 35184372088832)) 255, s0_1, wrap64 ((wrap64 (s0_2 * 6364136223846793005)) + 1442695040888963407)))) = some (r1, r2, r3) := h; clear h
 by_cases c2 : s0_1 < (s0_0.length : Int)
 ·rw [if_pos c2] at H; have ac : decide (s0_1 < (s0_0.length : Int)) = true := decide_eq_true c2; clear c2
  by_cases c3 : 0 ≤ s0_1
  ·rw [if_pos c3] at H; have an : decide (0 ≤ s0_1) = true := decide_eq_true c3; clear c3; simp only [Option.some.injEq, Prod.mk.injEq] at H; obtain ⟨rfl, rfl, rfl⟩ := H; obtain ⟨ASz4_0, cSz4_0, HGz4, hgz4, HSz4_0⟩ := HI0.out; have ad := cellS54_0 HGz4; have ae := cellS54_1 HGz4; have af := cellS54_2 HGz4; have ag := blk_frozen HGz4 1; have ah := blk_frozen HGz4 2; clear HGz4 hgz4; have ab : 0 ≤ (s0_1 : Int) := oD; have q104 : s0_1 < (s0_0.length : Int) := oD; obtain ⟨ad104, e104, aa⟩ := Kd.at_int HSz4_0 s0_1 ab q104
   cases e104
   have hn104_0 : ad104.block ≠ g := Nat.ne_of_lt (Nat.lt_of_lt_of_le (by have := World.block_lt_of_cell? _ _ aa; first | rwa [add_block] at this | exact this) (IsS54.ge HI0.out)); replace aa := pw_cell_below HB.out aa; replace aa := (cell_far (p := ⟨g, 2, none⟩) (by first | (rw [add_block]; exact hn104_0) | (show (Addr.add _ _).block ≠ _; rw [add_block]; exact hn104_0) | exact hn104_0) (.int .i64 (wrap64 ((wrap64 (s0_2 * 6364136223846793005)) + 1442695040888963407)))).trans aa
   (try have hy104_0 := fun (n_ : Nat) => (show (((w.drewN n_).setCell ⟨g, 2, none⟩ (.int .i64 (wrap64 ((wrap64 (s0_2 * 6364136223846793005)) + 1442695040888963407))))).cell? _ = some _ from aa))
   clear hn104_0; replace ab := eq_true ab; replace q104 := eq_true q104
   go_enter Try.func48, Try.ntmps48
   go_wp2
   repeat (go_quiet (fail); try go_wp2)
   go_ret; exact ⟨vw, by repeat (first | (with_reducible first | exact HI0.out | apply IsS54.alloc | apply IsS54.drewN | apply IsS54.drew | apply IsS54.set_1 | apply IsS54.set_2) | exact HI0.out), by repeat (first | (with_reducible first | exact HB.out | apply below_alloc | apply pw_below_drewN | apply below_drew1 | refine below_set ?_ (IsS54.ge HI0.out)) | exact HB.out), by repeat (first | (with_reducible first | exact HK.out | apply KeepBut.set_ | apply keep_drewN | apply keep_drew | apply keep_alloc) | exact HK.out)⟩
  ·rw [if_neg c3] at H; exact absurd H (by simp)
 ·rw [if_neg c2] at H; have ac : decide (s0_1 < (s0_0.length : Int)) = false := decide_eq_false c2; clear c2; simp only [Option.some.injEq, Prod.mk.injEq] at H; obtain ⟨rfl, rfl, rfl⟩ := H; obtain ⟨ASz5_0, cSz5_0, HGz5, hgz5, HSz5_0⟩ := HI0.out; have ai := cellS54_0 HGz5; have aj := cellS54_1 HGz5; have ak := cellS54_2 HGz5; have al := blk_frozen HGz5 1; have am := blk_frozen HGz5 2; clear HGz5 hgz5
  go_enter Try.func48, Try.ntmps48
  go_wp2
  repeat (go_quiet (fail); try go_wp2)
  go_ret; exact ⟨vw, by repeat (first | (with_reducible first | exact HI0.out | apply IsS54.alloc | apply IsS54.drewN | apply IsS54.drew | apply IsS54.set_1 | apply IsS54.set_2) | exact HI0.out), by repeat (first | (with_reducible first | exact HB.out | apply below_alloc | apply pw_below_drewN | apply below_drew1 | refine below_set ?_ (IsS54.ge HI0.out)) | exact HB.out), by repeat (first | (with_reducible first | exact HK.out | apply KeepBut.set_ | apply keep_drewN | apply keep_drew | apply keep_alloc) | exact HK.out)⟩


/-! ### spec_l1Below: function 42 -/
def spec_l1Below.f (s0_0 : List Int) (s0_1 : Int) (s0_2 : Int) (a1 : Int) : Option (Int × Int × Int) := if a1 ≤ 0 then (some (0, s0_1, s0_2)) else (if a1 ≤ 256 then ((spec_l1Byte.f s0_0 s0_1 s0_2).bind fun bt105 => (if a1 = 0 then (none) else (some (Int.tmod bt105.1 a1, bt105.2.1, bt105.2.2)))) else ((spec_l1Byte.f s0_0 s0_1 s0_2).bind fun bt108 => ((spec_l1Byte.f s0_0 bt108.2.1 bt108.2.2).bind fun bt111 => ((spec_l1Byte.f s0_0 bt111.2.1 bt111.2.2).bind fun bt114 => ((spec_l1Byte.f s0_0 bt114.2.1 bt114.2.2).bind fun bt117 => (if a1 = 0 then (none) else (some (Int.tmod (wrap64 ((wrap64 ((wrap64 ((wrap64 (bt108.1 * 16777216)) + (wrap64 (bt111.1 * 65536)))) + (wrap64 (bt114.1 * 256)))) + bt117.1)) a1, bt117.2.1, bt117.2.2))))))))
open Go.Proofs.Ytbdcchbhelehcaa.Short2 in
set_option maxHeartbeats 8000000 in
set_option maxRecDepth 100000 in
theorem spec_l1Below.calls (g : Nat) (s0_0 : List Int) (s0_1 : Int) (s0_2 : Int) (a1 : Int) (r1 : Int) (r2 : Int) (r3 : Int) (w0 w : World) (hI : IsS54 w0 w g s0_0 s0_1 s0_2) (hB : Below w0.heap.size w0 w) (h : spec_l1Below.f s0_0 s0_1 s0_2 a1 = some (r1, r2, r3)) :
  Calls Try.prog 42 #[.pointer (some ⟨g, 0, none⟩), .int .i64 a1] w fun e w' => e = .returned (.int .i64 r1) ∧ IsS54 w0 w' g s0_0 r2 r3 ∧ Below w0.heap.size w0 w' ∧ KeepBut w w' g none := by
 have HI0 := Aside0.mk hI; have HK := Aside0.mk (KeepBut.refl w g none); have HL := Aside0.mk hB.size; clear hI; have HW0 := Aside0.mk hB.size; have HB := Aside0.mk hB; clear hB; have H : (if a1 ≤ 0 then (some (0, s0_1, s0_2)) else (if a1 ≤ 256 then ((spec_l1Byte.f s0_0 s0_1 s0_2).bind fun bt105 => (if a1 = 0 then (none) else (some (Int.tmod bt105.1 a1, bt105.2.1, bt105.2.2)))) else ((spec_l1Byte.f s0_0 s0_1 s0_2).bind fun bt108 => ((spec_l1Byte.f s0_0 bt108.2.1 bt108.2.2).bind fun bt111 => ((spec_l1Byte.f s0_0 bt111.2.1 bt111.2.2).bind fun bt114 => ((spec_l1Byte.f s0_0 bt114.2.1 bt114.2.2).bind fun bt117 => (if a1 = 0 then (none) else (some (Int.tmod (wrap64 ((wrap64 ((wrap64 ((wrap64 (bt108.1 * 16777216)) + (wrap64 (bt111.1 * 65536)))) + (wrap64 (bt114.1 * 256)))) + bt117.1)) a1, bt117.2.1, bt117.2.2))))))))) = some (r1, r2, r3) := h; clear h
 by_cases c3 : a1 ≤ 0
 ·rw [if_pos c3] at H; have aA : decide (a1 ≤ 0) = true := decide_eq_true c3; clear c3; simp only [Option.some.injEq, Prod.mk.injEq] at H; obtain ⟨rfl, rfl, rfl⟩ := H
  go_enter Try.func42, Try.ntmps42
  go_wp2
  go_ret; exact ⟨vw, by repeat (first | (with_reducible first | exact HI0.out | apply IsS54.alloc | apply IsS54.drewN | apply IsS54.drew | apply IsS54.set_1 | apply IsS54.set_2) | exact HI0.out), by repeat (first | (with_reducible first | exact HB.out | apply below_alloc | apply pw_below_drewN | apply below_drew1 | refine below_set ?_ (IsS54.ge HI0.out)) | exact HB.out), by repeat (first | (with_reducible first | exact HK.out | apply KeepBut.set_ | apply keep_drewN | apply keep_drew | apply keep_alloc) | exact HK.out)⟩
 ·rw [if_neg c3] at H; have aA : decide (a1 ≤ 0) = false := decide_eq_false c3; clear c3
  by_cases c4 : a1 ≤ 256
  ·rw [if_pos c4] at H; have aB : decide (a1 ≤ 256) = true := decide_eq_true c4; clear c4; replace H := bI H; obtain ⟨⟨an, ao, ap⟩, ax, H⟩ := H; replace H : (if a1 = 0 then (none) else (some (Int.tmod an a1, ao, ap))) = some (r1, r2, r3) := H; have A5 := Aside0.mk ax; clear ax
   by_cases c6 : a1 = 0
   ·rw [if_pos c6] at H; exact absurd H (by simp)
   ·rw [if_neg c6] at H; have aG : (a1 == 0) = false := beq_eq_false_iff_ne.mpr c6; have aH : (a1 != 0) = true := bne_iff_ne.mpr c6; simp only [Option.some.injEq, Prod.mk.injEq] at H; obtain ⟨rfl, rfl, rfl⟩ := H
    go_enter Try.func42, Try.ntmps42
    go_wp2_with (first | ((with_reducible refine gate_callee (f := 48) rfl ?_); refine gl_ (some 14) Try.func48 #[.pointer (some ⟨g, 0, none⟩)] ?_; (with_reducible refine (spec_l1Byte.calls g s0_0 s0_1 s0_2 an ao ap w0 _ ?side1 ?side2 A5.out).mono ?_); (case side1 => repeat (first | (with_reducible first | exact HI0.out | apply IsS54.alloc | apply IsS54.drewN | apply IsS54.drew | apply IsS54.set_1 | apply IsS54.set_2) | exact HI0.out)); (case side2 => repeat (first | (with_reducible first | exact HB.out | apply below_alloc | apply pw_below_drewN | apply below_drew1 | refine below_set ?_ (IsS54.ge HI0.out)) | exact HB.out)); rintro e w7 ⟨rfl, hi, hb, hk⟩; refine ⟨_, rfl, ?_⟩; have aa := Aside0.mk (KeepBut.trans (by repeat (first | (with_reducible first | exact HK.out | apply KeepBut.set_ | apply keep_drewN | apply keep_drew | apply keep_alloc) | exact HK.out)) hk (.inl rfl)); have ab := Aside0.mk (hb); have ac := Aside0.mk (hi); clear HK; clear HB; clear HI0; have HK := aa; have HB := ab; have HI0 := ac; clear aa ab ac; (try clear hb); (try clear hb2); (try clear hk); (try clear hi)))
    go_ret; exact ⟨vw, by repeat (first | (with_reducible first | exact HI0.out | apply IsS54.alloc | apply IsS54.drewN | apply IsS54.drew | apply IsS54.set_1 | apply IsS54.set_2) | exact HI0.out), by repeat (first | (with_reducible first | exact HB.out | apply below_alloc | apply pw_below_drewN | apply below_drew1 | refine below_set ?_ (IsS54.ge HI0.out)) | exact HB.out), by repeat (first | (with_reducible first | exact HK.out | apply KeepBut.set_ | apply keep_drewN | apply keep_drew | apply keep_alloc) | exact HK.out)⟩
  ·rw [if_neg c4] at H; have aB : decide (a1 ≤ 256) = false := decide_eq_false c4; clear c4; replace H := bI H; obtain ⟨⟨ad, af, ag⟩, ay, H⟩ := H; replace H : ((spec_l1Byte.f s0_0 af ag).bind fun bt111 => ((spec_l1Byte.f s0_0 bt111.2.1 bt111.2.2).bind fun bt114 => ((spec_l1Byte.f s0_0 bt114.2.1 bt114.2.2).bind fun bt117 => (if a1 = 0 then (none) else (some (Int.tmod (wrap64 ((wrap64 ((wrap64 ((wrap64 (ad * 16777216)) + (wrap64 (bt111.1 * 65536)))) + (wrap64 (bt114.1 * 256)))) + bt117.1)) a1, bt117.2.1, bt117.2.2)))))) = some (r1, r2, r3) := H; have A8 := Aside0.mk ay; clear ay; replace H := bI H; obtain ⟨⟨ae, ah, ai⟩, az, H⟩ := H; replace H : ((spec_l1Byte.f s0_0 ah ai).bind fun bt114 => ((spec_l1Byte.f s0_0 bt114.2.1 bt114.2.2).bind fun bt117 => (if a1 = 0 then (none) else (some (Int.tmod (wrap64 ((wrap64 ((wrap64 ((wrap64 (ad * 16777216)) + (wrap64 (ae * 65536)))) + (wrap64 (bt114.1 * 256)))) + bt117.1)) a1, bt117.2.1, bt117.2.2))))) = some (r1, r2, r3) := H; have A9 := Aside0.mk az; clear az; replace H := bI H; obtain ⟨⟨aj, ak, al⟩, aq, H⟩ := H; replace H : ((spec_l1Byte.f s0_0 ak al).bind fun bt117 => (if a1 = 0 then (none) else (some (Int.tmod (wrap64 ((wrap64 ((wrap64 ((wrap64 (ad * 16777216)) + (wrap64 (ae * 65536)))) + (wrap64 (aj * 256)))) + bt117.1)) a1, bt117.2.1, bt117.2.2)))) = some (r1, r2, r3) := H; have aC := Aside0.mk aq; clear aq; replace H := bI H; obtain ⟨⟨ar, au, av⟩, aw, H⟩ := H; replace H : (if a1 = 0 then (none) else (some (Int.tmod (wrap64 ((wrap64 ((wrap64 ((wrap64 (ad * 16777216)) + (wrap64 (ae * 65536)))) + (wrap64 (aj * 256)))) + ar)) a1, au, av))) = some (r1, r2, r3) := H; have aD := Aside0.mk aw; clear aw
   by_cases am : a1 = 0
   ·rw [if_pos am] at H; exact absurd H (by simp)
   ·rw [if_neg am] at H; have aE : (a1 == 0) = false := beq_eq_false_iff_ne.mpr am; have aF : (a1 != 0) = true := bne_iff_ne.mpr am; simp only [Option.some.injEq, Prod.mk.injEq] at H; obtain ⟨rfl, rfl, rfl⟩ := H
    go_enter Try.func42, Try.ntmps42
    go_wp2_with (first | ((with_reducible refine gate_callee (f := 48) rfl ?_); refine gl_ (some 18) Try.func48 #[.pointer (some ⟨g, 0, none⟩)] ?_; (with_reducible refine (spec_l1Byte.calls g s0_0 s0_1 s0_2 ad af ag w0 _ ?side1 ?side2 A8.out).mono ?_); (case side1 => repeat (first | (with_reducible first | exact HI0.out | apply IsS54.alloc | apply IsS54.drewN | apply IsS54.drew | apply IsS54.set_1 | apply IsS54.set_2) | exact HI0.out)); (case side2 => repeat (first | (with_reducible first | exact HB.out | apply below_alloc | apply pw_below_drewN | apply below_drew1 | refine below_set ?_ (IsS54.ge HI0.out)) | exact HB.out)); rintro e aI ⟨rfl, hi, hb, hk⟩; refine ⟨_, rfl, ?_⟩; have aa := Aside0.mk (KeepBut.trans (by repeat (first | (with_reducible first | exact HK.out | apply KeepBut.set_ | apply keep_drewN | apply keep_drew | apply keep_alloc) | exact HK.out)) hk (.inl rfl)); have ab := Aside0.mk (hb); have ac := Aside0.mk (hi); clear HK; clear HB; clear HI0; have HK := aa; have HB := ab; have HI0 := ac; clear aa ab ac; (try clear hb); (try clear hb2); (try clear hk); (try clear hi)) | ((with_reducible refine gate_callee (f := 48) rfl ?_); refine gl_ (some 20) Try.func48 #[.pointer (some ⟨g, 0, none⟩)] ?_; (with_reducible refine (spec_l1Byte.calls g s0_0 af ag ae ah ai w0 _ ?side1 ?side2 A9.out).mono ?_); (case side1 => repeat (first | (with_reducible first | exact HI0.out | apply IsS54.alloc | apply IsS54.drewN | apply IsS54.drew | apply IsS54.set_1 | apply IsS54.set_2) | exact HI0.out)); (case side2 => repeat (first | (with_reducible first | exact HB.out | apply below_alloc | apply pw_below_drewN | apply below_drew1 | refine below_set ?_ (IsS54.ge HI0.out)) | exact HB.out)); rintro e aJ ⟨rfl, hi, hb, hk⟩; refine ⟨_, rfl, ?_⟩; have aa := Aside0.mk (KeepBut.trans (by repeat (first | (with_reducible first | exact HK.out | apply KeepBut.set_ | apply keep_drewN | apply keep_drew | apply keep_alloc) | exact HK.out)) hk (.inl rfl)); have ab := Aside0.mk (hb); have ac := Aside0.mk (hi); clear HK; clear HB; clear HI0; have HK := aa; have HB := ab; have HI0 := ac; clear aa ab ac; (try clear hb); (try clear hb2); (try clear hk); (try clear hi)) | ((with_reducible refine gate_callee (f := 48) rfl ?_); refine gl_ (some 22) Try.func48 #[.pointer (some ⟨g, 0, none⟩)] ?_; (with_reducible refine (spec_l1Byte.calls g s0_0 ah ai aj ak al w0 _ ?side1 ?side2 aC.out).mono ?_); (case side1 => repeat (first | (with_reducible first | exact HI0.out | apply IsS54.alloc | apply IsS54.drewN | apply IsS54.drew | apply IsS54.set_1 | apply IsS54.set_2) | exact HI0.out)); (case side2 => repeat (first | (with_reducible first | exact HB.out | apply below_alloc | apply pw_below_drewN | apply below_drew1 | refine below_set ?_ (IsS54.ge HI0.out)) | exact HB.out)); rintro e aK ⟨rfl, hi, hb, hk⟩; refine ⟨_, rfl, ?_⟩; have aa := Aside0.mk (KeepBut.trans (by repeat (first | (with_reducible first | exact HK.out | apply KeepBut.set_ | apply keep_drewN | apply keep_drew | apply keep_alloc) | exact HK.out)) hk (.inl rfl)); have ab := Aside0.mk (hb); have ac := Aside0.mk (hi); clear HK; clear HB; clear HI0; have HK := aa; have HB := ab; have HI0 := ac; clear aa ab ac; (try clear hb); (try clear hb2); (try clear hk); (try clear hi)) | ((with_reducible refine gate_callee (f := 48) rfl ?_); refine gl_ (some 24) Try.func48 #[.pointer (some ⟨g, 0, none⟩)] ?_; (with_reducible refine (spec_l1Byte.calls g s0_0 ak al ar au av w0 _ ?side1 ?side2 aD.out).mono ?_); (case side1 => repeat (first | (with_reducible first | exact HI0.out | apply IsS54.alloc | apply IsS54.drewN | apply IsS54.drew | apply IsS54.set_1 | apply IsS54.set_2) | exact HI0.out)); (case side2 => repeat (first | (with_reducible first | exact HB.out | apply below_alloc | apply pw_below_drewN | apply below_drew1 | refine below_set ?_ (IsS54.ge HI0.out)) | exact HB.out)); rintro e aL ⟨rfl, hi, hb, hk⟩; refine ⟨_, rfl, ?_⟩; have aa := Aside0.mk (KeepBut.trans (by repeat (first | (with_reducible first | exact HK.out | apply KeepBut.set_ | apply keep_drewN | apply keep_drew | apply keep_alloc) | exact HK.out)) hk (.inl rfl)); have ab := Aside0.mk (hb); have ac := Aside0.mk (hi); clear HK; clear HB; clear HI0; have HK := aa; have HB := ab; have HI0 := ac; clear aa ab ac; (try clear hb); (try clear hb2); (try clear hk); (try clear hi)))
    go_ret; exact ⟨vw, by repeat (first | (with_reducible first | exact HI0.out | apply IsS54.alloc | apply IsS54.drewN | apply IsS54.drew | apply IsS54.set_1 | apply IsS54.set_2) | exact HI0.out), by repeat (first | (with_reducible first | exact HB.out | apply below_alloc | apply pw_below_drewN | apply below_drew1 | refine below_set ?_ (IsS54.ge HI0.out)) | exact HB.out), by repeat (first | (with_reducible first | exact HK.out | apply KeepBut.set_ | apply keep_drewN | apply keep_drew | apply keep_alloc) | exact HK.out)⟩


/-! ### spec_l1PickInt: function 22 -/
def spec_l1PickInt.f (s0_0 : List Int) (s0_1 : Int) (s0_2 : Int) (l1 : List Int) : Option (Int × Int × Int) := (spec_l1Below.f s0_0 s0_1 s0_2 (l1.length : Int)).bind fun bt120 => (if 0 ≤ bt120.1 then (if bt120.1 < (l1.length : Int) then (some (rd l1 bt120.1, bt120.2.1, bt120.2.2)) else (none)) else (none))
open Go.Proofs.Ytbdcchbhelehcaa.Short2 in
set_option maxHeartbeats 8000000 in
set_option maxRecDepth 100000 in
theorem spec_l1PickInt.calls (g : Nat) (s0_0 : List Int) (s0_1 : Int) (s0_2 : Int) (A1 : Option Addr) (c1 : Nat) (l1 : List Int) (r1 : Int) (r2 : Int) (r3 : Int) (w0 w : World) (hI : IsS54 w0 w g s0_0 s0_1 s0_2) (hB : Below w0.heap.size w0 w) (hr1 : Kd.C (Kd.int .i64) w A1 l1.length l1) (hc1 : l1.length ≤ c1) (hf1 : ∀ ad, A1 = some ad → 0 < l1.length → ad.block ≠ g) (h : spec_l1PickInt.f s0_0 s0_1 s0_2 l1 = some (r1, r2, r3)) :
  Calls Try.prog 22 #[.pointer (some ⟨g, 0, none⟩), .slice A1 l1.length c1] w fun e w' => e = .returned (.int .i64 r1) ∧ IsS54 w0 w' g s0_0 r2 r3 ∧ Below w0.heap.size w0 w' ∧ KeepBut w w' g none := by
 have HR1 := Aside0.mk hr1; have HC1 := Aside0.mk hc1; clear hr1 hc1; have HI0 := Aside0.mk hI; have HK := Aside0.mk (KeepBut.refl w g none); have HL := Aside0.mk hB.size; clear hI; have HW0 := Aside0.mk hB.size; have HB := Aside0.mk hB; clear hB; have H : ((spec_l1Below.f s0_0 s0_1 s0_2 (l1.length : Int)).bind fun bt120 => (if 0 ≤ bt120.1 then (if bt120.1 < (l1.length : Int) then (some (rd l1 bt120.1, bt120.2.1, bt120.2.2)) else (none)) else (none))) = some (r1, r2, r3) := h; clear h; replace H := bI H; obtain ⟨⟨aa, ae, af⟩, ag, H⟩ := H; replace H : (if 0 ≤ aa then (if aa < (l1.length : Int) then (some (rd l1 aa, ae, af)) else (none)) else (none)) = some (r1, r2, r3) := H; have A3 := Aside0.mk ag; clear ag
 by_cases c4 : 0 ≤ aa
 ·rw [if_pos c4] at H; have ak : decide (0 ≤ aa) = true := decide_eq_true c4; clear c4
  by_cases c5 : aa < (l1.length : Int)
  ·rw [if_pos c5] at H; have al : decide (aa < (l1.length : Int)) = true := decide_eq_true c5; clear c5; simp only [Option.some.injEq, Prod.mk.injEq] at H; obtain ⟨rfl, rfl, rfl⟩ := H
   go_enter Try.func22, Try.ntmps22
   go_wp2_with (first | ((with_reducible refine gate_callee (f := 42) rfl ?_); refine gl_ (some 9) Try.func42 #[.pointer (some ⟨g, 0, none⟩), .int .i64 (l1.length : Int)] ?_; (with_reducible refine (spec_l1Below.calls g s0_0 s0_1 s0_2 (l1.length : Int) aa ae af w0 _ ?side1 ?side2 A3.out).mono ?_); (case side1 => repeat (first | (with_reducible first | exact HI0.out | apply IsS54.alloc | apply IsS54.drewN | apply IsS54.drew | apply IsS54.set_1 | apply IsS54.set_2) | exact HI0.out)); (case side2 => repeat (first | (with_reducible first | exact HB.out | apply below_alloc | apply pw_below_drewN | apply below_drew1 | refine below_set ?_ (IsS54.ge HI0.out)) | exact HB.out)); rintro e w6 ⟨rfl, hi, hb, hk⟩; refine ⟨_, rfl, ?_⟩; have ah := Aside0.mk (KeepBut.trans (by repeat (first | (with_reducible first | exact HK.out | apply KeepBut.set_ | apply keep_drewN | apply keep_drew | apply keep_alloc) | exact HK.out)) hk (.inl rfl)); have ai := Aside0.mk (hb); have aj := Aside0.mk (hi); clear HK; clear HB; clear HI0; have HK := ah; have HB := ai; have HI0 := aj; clear ah ai aj; (try clear hb); (try clear hb2); (try clear hk); (try clear hi); have ac : 0 ≤ (aa : Int) := oD; have q123 : aa < (l1.length : Int) := oD; obtain ⟨ad123, e123, ab⟩ := Kd.at_int HR1.out aa ac q123; cases e123; replace ab := keep_cell HK.out ab (by first | (rw [add_block]; exact hf1 _ rfl (by omega)) | exact hf1 _ rfl (by omega) | exact hf1 ad123 rfl (by omega)); replace ac := eq_true ac; replace q123 := eq_true q123))
   go_ret; exact ⟨vw, by repeat (first | (with_reducible first | exact HI0.out | apply IsS54.alloc | apply IsS54.drewN | apply IsS54.drew | apply IsS54.set_1 | apply IsS54.set_2) | exact HI0.out), by repeat (first | (with_reducible first | exact HB.out | apply below_alloc | apply pw_below_drewN | apply below_drew1 | refine below_set ?_ (IsS54.ge HI0.out)) | exact HB.out), by repeat (first | (with_reducible first | exact HK.out | apply KeepBut.set_ | apply keep_drewN | apply keep_drew | apply keep_alloc) | exact HK.out)⟩
  ·rw [if_neg c5] at H; exact absurd H (by simp)
 ·rw [if_neg c4] at H; exact absurd H (by simp)

/-! ### spec_l1In: function 27 -/
def spec_l1In.f (a0 : Int) (a1 : Int) (a2 : Int) : Option (Bool) := if a0 ≥ a1 then (some (decide (a0 ≤ a2))) else (some false)
set_option maxHeartbeats 8000000 in
set_option maxRecDepth 100000 in
theorem spec_l1In.calls (a0 : Int) (a1 : Int) (a2 : Int) (r : Bool) (w : World) (h : spec_l1In.f a0 a1 a2 = some r) :
    Calls Try.prog 27 #[.int .i64 a0, .int .i64 a1, .int .i64 a2] w fun e w' => e = .returned (.bool r) ∧ Drawn0 w w' := by
  have H : (if a0 ≥ a1 then (some (decide (a0 ≤ a2))) else (some false)) = some r := h
  clear h
  by_cases c4 : a0 ≥ a1
  · rw [if_pos c4] at H
    have aa : decide (a1 ≤ a0) = true := decide_eq_true c4
    clear c4
    obtain rfl := Option.some.inj H
    go_enter Try.func27, Try.ntmps27
    go_wp2
    go_ret
    exact ⟨by first | rfl | (simp; done) | (simp [*]; done), by repeat (first | exact Drawn0.refl _ | apply Drawn0.step)⟩
  · rw [if_neg c4] at H
    have aa : decide (a1 ≤ a0) = false := decide_eq_false c4
    clear c4
    obtain rfl := Option.some.inj H
    go_enter Try.func27, Try.ntmps27
    go_wp2
    go_ret
    exact ⟨by first | rfl | (simp; done) | (simp [*]; done), by repeat (first | exact Drawn0.refl _ | apply Drawn0.step)⟩


/-! ### spec_l3Letters: function 28 -/
def spec_l3Letters.l0 : Nat → List Int → Int → Int → Option (Bool)
 | 0, _, _, _ => none
 | k + 1, x0, x1, x5 => if x5 < (x0.length : Int) then (if 0 ≤ x5 then ((spec_l1In.f (rd x0 x5) 0 (wrap64 (x1 - 1))).bind fun t125 => (if t125 = true then (spec_l3Letters.l0 k x0 x1 (wrap64 (x5 + 1))) else (some false))) else (none)) else (some true)
def spec_l3Letters.f (k : Nat) (l0 : List Int) (a1 : Int) : Option (Bool) := spec_l3Letters.l0 k l0 a1 0
theorem spec_l3Letters.mono_l : ∀ k, (∀ y0 y1 y2, LeO (spec_l3Letters.l0 k y0 y1 y2) (spec_l3Letters.l0 (k + 1) y0 y1 y2))
 | 0 => fun _ _ _ r h => by simp [spec_l3Letters.l0] at h
 | k + 1 => by
  have ih0 := spec_l3Letters.mono_l k
  ·intro y0 y1 y2
   unfold spec_l3Letters.l0
   repeat' first
   | (with_reducible exact ih0 _ _ _)
   | (with_reducible exact LeO.refl _)
   | (with_reducible exact LeO.none _)
   | (with_reducible refine LeO.ite ?_ ?_)
   | (with_reducible refine LeO.bind ?_ (fun _ => ?_))
   | exact ih0 _ _ _
   | exact LeO.none _
   | refine LeO.ite ?_ ?_
   | refine LeO.bind ?_ (fun _ => ?_)
theorem spec_l3Letters.mono : ∀ a0 a1 k, LeO (spec_l3Letters.f k a0 a1) (spec_l3Letters.f (k + 1) a0 a1) := by
 intro a0 a1 k
 have ih0 := spec_l3Letters.mono_l k
 unfold spec_l3Letters.f
 repeat' first
   | (with_reducible exact ih0 _ _ _)
   | (with_reducible exact LeO.refl _)
   | (with_reducible exact LeO.none _)
   | (with_reducible refine LeO.ite ?_ ?_)
   | (with_reducible refine LeO.bind ?_ (fun _ => ?_))
   | exact ih0 _ _ _
   | exact LeO.none _
   | refine LeO.ite ?_ ?_
   | refine LeO.bind ?_ (fun _ => ?_)
open Go.Proofs.Ytbdcchbhelehcaa.Short2 in
set_option maxHeartbeats 8000000 in
set_option maxRecDepth 100000 in
theorem spec_l3Letters.calls (k : Nat) (A0 : Option Addr) (c0 : Nat) (l0 : List Int) (a1 : Int) (r : Bool) (w : World) (hr0 : Kd.C (Kd.int .i64) w A0 l0.length l0) (hc0 : l0.length ≤ c0) (h : spec_l3Letters.f k l0 a1 = some r) :
  Calls Try.prog 28 #[.slice A0 l0.length c0, .int .i64 a1] w fun e w' => e = .returned (.bool r) ∧ Drawn0 w w' := by
 have HR0 := Aside0.mk hr0; have HC0 := Aside0.mk hc0; clear hr0 hc0; have H : (spec_l3Letters.l0 k l0 a1 0) = some r := h; clear h; have H' := Aside0.mk H; clear H
 go_enter Try.func28, Try.ntmps28
 go_wp2
 go_loopg [5] k (fun kq v5 w' => ∃ (x5_1 : Int), v5 = .int .i64 x5_1 ∧ Aside0 (spec_l3Letters.l0 kq l0 a1 x5_1 = some r) ∧ Aside0 (kq ≤ k) ∧ Drawn0 w w')
 case atStart => exact ⟨(0), vv, H', ⟨Nat.le_refl _⟩, by repeat (first | exact Drawn0.refl _ | apply Drawn0.step)⟩
 case round =>
  clear H'
  try clear c2
  try clear p2
  obtain ⟨x5_1, rfl, HA, HK1, ⟨m1, rfl⟩⟩ := hrel
  cases gk with
  | zero => exact absurd HA.out (by simp [spec_l3Letters.l0])
  | succ k1 =>
   have H := HA.out; clear HA; simp only [spec_l3Letters.l0] at H
   by_cases c3 : x5_1 < (l0.length : Int)
   ·rw [if_pos c3] at H; have ae : decide (x5_1 < (l0.length : Int)) = true := decide_eq_true c3; clear c3
    by_cases c4 : 0 ≤ x5_1
    ·rw [if_pos c4] at H; have af : decide (0 ≤ x5_1) = true := decide_eq_true c4; clear c4; replace H := bI H; obtain ⟨ac, ad, H⟩ := H; replace H : (if ac = true then (spec_l3Letters.l0 k1 l0 a1 (wrap64 (x5_1 + 1))) else (some false)) = some r := H; have A5 := Aside0.mk ad; clear ad
     by_cases c6 : ac = true
     ·subst c6
      have H1 : (spec_l3Letters.l0 k1 l0 a1 (wrap64 (x5_1 + 1))) = some r := by rw [if_pos rfl] at H; exact H
      clear H; have H := H1; clear H1; have H' := Aside0.mk H; clear H; have aa : 0 ≤ (x5_1 : Int) := oD; have q124 : x5_1 < (l0.length : Int) := oD; obtain ⟨ad124, e124, ab⟩ := Kd.at_int HR0.out x5_1 aa q124
      cases e124
      replace aa := eq_true aa; replace q124 := eq_true q124
      go_wp2_with (first | ((with_reducible refine gate_callee (f := 27) rfl ?_); refine gl_ (some 18) Try.func27 #[.int .i64 (rd l0 x5_1), .int .i64 0, .int .i64 (wrap64 (a1 - 1))] ?_; (with_reducible refine (spec_l1In.calls (rd l0 x5_1) 0 (wrap64 (a1 - 1)) true _ A5.out).mono ?_); rintro e w' ⟨rfl, ⟨nd, rfl⟩⟩; refine ⟨_, rfl, ?_⟩))
      go_roundg k1
      case measure => have := HK1.out; omega
      case rel => exact ⟨(wrap64 (x5_1 + 1)), vv, H', ⟨by have := HK1.out; omega⟩, by repeat (first | exact Drawn0.refl _ | apply Drawn0.step)⟩
     ·replace c6 := Bool.eq_false_iff.mpr c6; subst c6
      have H1 : (some false) = some r := by rw [if_neg (show ¬ (false = true) by decide)] at H; exact H
      clear H; have H := H1; clear H1; obtain rfl := Option.some.inj H; have aa : 0 ≤ (x5_1 : Int) := oD; have q124 : x5_1 < (l0.length : Int) := oD; obtain ⟨ad124, e124, ab⟩ := Kd.at_int HR0.out x5_1 aa q124
      cases e124
      replace aa := eq_true aa; replace q124 := eq_true q124
      go_wp2_with (first | ((with_reducible refine gate_callee (f := 27) rfl ?_); refine gl_ (some 18) Try.func27 #[.int .i64 (rd l0 x5_1), .int .i64 0, .int .i64 (wrap64 (a1 - 1))] ?_; (with_reducible refine (spec_l1In.calls (rd l0 x5_1) 0 (wrap64 (a1 - 1)) false _ A5.out).mono ?_); rintro e w' ⟨rfl, ⟨nd, rfl⟩⟩; refine ⟨_, rfl, ?_⟩))
      go_ret; exact ⟨by first | rfl | (simp; done) | (simp [*]; done), by repeat (first | exact Drawn0.refl _ | apply Drawn0.step)⟩
    ·rw [if_neg c4] at H; exact absurd H (by simp)
   ·rw [if_neg c3] at H; have ae : decide (x5_1 < (l0.length : Int)) = false := decide_eq_false c3; clear c3; obtain rfl := Option.some.inj H
    go_wp2
    go_ret; exact ⟨by first | rfl | (simp; done) | (simp [*]; done), by repeat (first | exact Drawn0.refl _ | apply Drawn0.step)⟩


/-! ### spec_WordOk: function 7 -/
def spec_WordOk.j0 : Nat → Int → Bool → List Int → List Int → Option (Bool)
 | 0, _, _, _, _ => none
 | k + 1, x1, x20, x127000, x127001 => if x20 = true then (some false) else ((spec_l3Letters.f k x127000 x1).bind fun t129 => (if t129 = true then ((spec_l3Letters.f k x127001 x1).bind fun t130 => (some t130)) else (some false)))
def spec_WordOk.f (k : Nat) (l0_0 : List Int) (l0_1 : List Int) (a1 : Int) : Option (Bool) := (spec_l1In.f a1 1 8).bind fun t127 => (if t127 = true then (if (l0_0.length : Int) > 40 then (spec_WordOk.j0 k a1 true l0_0 l0_1) else ((spec_l1In.f (l0_1.length : Int) 1 40).bind fun t128 => (spec_WordOk.j0 k a1 (!t128) l0_0 l0_1))) else (spec_WordOk.j0 k a1 true l0_0 l0_1))
theorem spec_WordOk.mono_l : ∀ k, (∀ y0 y1 y2 y3, LeO (spec_WordOk.j0 k y0 y1 y2 y3) (spec_WordOk.j0 (k + 1) y0 y1 y2 y3))
 | 0 => fun _ _ _ _ r h => by simp [spec_WordOk.j0] at h
 | k + 1 => by
  have ih0 := spec_WordOk.mono_l k
  ·intro y0 y1 y2 y3
   unfold spec_WordOk.j0
   repeat' first
   | (with_reducible exact ih0 _ _ _ _)
   | (with_reducible exact spec_l3Letters.mono _ _ _)
   | (with_reducible exact LeO.refl _)
   | (with_reducible exact LeO.none _)
   | (with_reducible refine LeO.ite ?_ ?_)
   | (with_reducible refine LeO.bind ?_ (fun _ => ?_))
   | exact ih0 _ _ _ _
   | exact spec_l3Letters.mono _ _ _
   | exact LeO.none _
   | refine LeO.ite ?_ ?_
   | refine LeO.bind ?_ (fun _ => ?_)
theorem spec_WordOk.mono : ∀ a0 a1 a2 k, LeO (spec_WordOk.f k a0 a1 a2) (spec_WordOk.f (k + 1) a0 a1 a2) := by
 intro a0 a1 a2 k
 have ih0 := spec_WordOk.mono_l k
 unfold spec_WordOk.f
 repeat' first
   | (with_reducible exact ih0 _ _ _ _)
   | (with_reducible exact spec_l3Letters.mono _ _ _)
   | (with_reducible exact LeO.refl _)
   | (with_reducible exact LeO.none _)
   | (with_reducible refine LeO.ite ?_ ?_)
   | (with_reducible refine LeO.bind ?_ (fun _ => ?_))
   | exact ih0 _ _ _ _
   | exact spec_l3Letters.mono _ _ _
   | exact LeO.none _
   | refine LeO.ite ?_ ?_
   | refine LeO.bind ?_ (fun _ => ?_)
open Go.Proofs.Ytbdcchbhelehcaa.Short2 in
set_option maxHeartbeats 8000000 in
set_option maxRecDepth 100000 in
theorem spec_WordOk.calls (k : Nat) (A0_0 : Option Addr) (c0_0 : Nat) (l0_0 : List Int) (A0_1 : Option Addr) (c0_1 : Nat) (l0_1 : List Int) (a1 : Int) (r : Bool) (w : World) (hr0_0 : Kd.C (Kd.int .i64) w A0_0 l0_0.length l0_0) (hc0_0 : l0_0.length ≤ c0_0) (hr0_1 : Kd.C (Kd.int .i64) w A0_1 l0_1.length l0_1) (hc0_1 : l0_1.length ≤ c0_1) (h : spec_WordOk.f k l0_0 l0_1 a1 = some r) :
  Calls Try.prog 7 #[.agg #[.slice A0_0 l0_0.length c0_0, .slice A0_1 l0_1.length c0_1], .int .i64 a1] w fun e w' => e = .returned (.bool r) ∧ Below w.heap.size w w' := by
 have hu26 := Try.underlying26; have HR0_0 := Aside0.mk hr0_0; have HC0_0 := Aside0.mk hc0_0; clear hr0_0 hc0_0; have HR0_1 := Aside0.mk hr0_1; have HC0_1 := Aside0.mk hc0_1; clear hr0_1 hc0_1; have HB := Aside0.mk (Below.refl w.heap.size w); have H : ((spec_l1In.f a1 1 8).bind fun af => (if af = true then (if (l0_0.length : Int) > 40 then (spec_WordOk.j0 k a1 true l0_0 l0_1) else ((spec_l1In.f (l0_1.length : Int) 1 40).bind fun ab => (spec_WordOk.j0 k a1 (!ab) l0_0 l0_1))) else (spec_WordOk.j0 k a1 true l0_0 l0_1))) = some r := h; clear h; have HC3 := Aside0.mk H; clear H
 go_enter Try.func7, Try.ntmps7
 go_upto_region 1 with (first | ((with_reducible refine gate_dst (N := 2) rfl ?_); (try (refine gate_guard (by rfl) ?_; dsimp only)); refine bx_ 2 #[.slice A0_0 l0_0.length c0_0, .slice A0_1 l0_1.length c0_1] 26 ?_; intro aw hg w4 hbox hb; have aa := Aside0.mk (hbox); have aK := xG HB hg; have aL := xG HB hg; replace HB := xS HB hb; clear hb hbox hg))
 (try simp only [Act.put, q3])
 go_cut [20] (fun aI wc => ∃ (kq : Nat) (ae : Bool), aI = .bool ae ∧ Aside0 (spec_WordOk.j0 kq a1 ae l0_0 l0_1 = some r) ∧ Aside0 (kq ≤ k) ∧ Aside0 (wc.heap[aw]? = some (.cells #[(.slice A0_0 l0_0.length c0_0), (.slice A0_1 l0_1.length c0_1)] 26 (0, 0))) ∧ Aside0 (Below w.heap.size w wc))
 case first =>
  have H := HC3.out; clear HC3; replace H := bI H; obtain ⟨af, ax, H⟩ := H; replace H : (if af = true then (if (l0_0.length : Int) > 40 then (spec_WordOk.j0 k a1 true l0_0 l0_1) else ((spec_l1In.f (l0_1.length : Int) 1 40).bind fun ab => (spec_WordOk.j0 k a1 (!ab) l0_0 l0_1))) else (spec_WordOk.j0 k a1 true l0_0 l0_1)) = some r := H; have A5 := Aside0.mk ax; clear ax
  by_cases c6 : af = true
  ·subst c6
   have H1 : (if (l0_0.length : Int) > 40 then (spec_WordOk.j0 k a1 true l0_0 l0_1) else ((spec_l1In.f (l0_1.length : Int) 1 40).bind fun ab => (spec_WordOk.j0 k a1 (!ab) l0_0 l0_1))) = some r := by rw [if_pos rfl] at H; exact H
   clear H; have H := H1; clear H1
   by_cases c7 : (l0_0.length : Int) > 40
   ·rw [if_pos c7] at H; have ad : decide (40 < (l0_0.length : Int)) = true := decide_eq_true c7; have an : decide (40 < l0_0.length) = true := decide_eq_true (by omega); clear c7
    (first | rw [ad] | (simp only [i64_w, i32_w]; rw [ad]) | skip)
    have H' := Aside0.mk H; clear H
    go_wp2_with (first | ((with_reducible refine gate_callee (f := 27) rfl ?_); refine gl_ (some 6) Try.func27 #[.int .i64 a1, .int .i64 1, .int .i64 8] ?_; (with_reducible refine (spec_l1In.calls a1 1 8 true _ A5.out).mono ?_); rintro e w' ⟨rfl, ⟨nd, rfl⟩⟩; refine ⟨_, rfl, ?_⟩; obtain ⟨ao, ap, aq, ar⟩ := cz2 aa))
    go_meet
    case rel => exact ⟨_, (true), vv, H', ⟨by first | omega | exact Nat.le_refl _⟩, ⟨zB aa.out⟩, ⟨zS HB.out⟩⟩
   ·rw [if_neg c7] at H; have ad : decide (40 < (l0_0.length : Int)) = false := decide_eq_false c7; have an : decide (40 < l0_0.length) = false := decide_eq_false (by omega); clear c7
    (first | rw [ad] | (simp only [i64_w, i32_w]; rw [ad]) | skip)
    replace H := bI H; obtain ⟨ab, ay, H⟩ := H; replace H : (spec_WordOk.j0 k a1 (!ab) l0_0 l0_1) = some r := H; have A9 := Aside0.mk ay; clear ay; have H' := Aside0.mk H; clear H
    go_wp2_with (first | ((with_reducible refine gate_callee (f := 27) rfl ?_); refine gl_ (some 6) Try.func27 #[.int .i64 a1, .int .i64 1, .int .i64 8] ?_; (with_reducible refine (spec_l1In.calls a1 1 8 true _ A5.out).mono ?_); rintro e w' ⟨rfl, ⟨nd, rfl⟩⟩; refine ⟨_, rfl, ?_⟩; obtain ⟨aj, ak, al, am⟩ := cz2 aa) | (go_at_call 27; (with_reducible refine (spec_l1In.calls (l0_1.length : Int) 1 40 ab _ A9.out).mono ?_); rintro e w' ⟨rfl, ⟨nd, rfl⟩⟩))
    go_meet
    case rel => exact ⟨_, (!ab), vv, H', ⟨by first | omega | exact Nat.le_refl _⟩, ⟨zB aa.out⟩, ⟨zS HB.out⟩⟩
  ·replace c6 := Bool.eq_false_iff.mpr c6; subst c6
   have H1 : (spec_WordOk.j0 k a1 true l0_0 l0_1) = some r := by rw [if_neg (show ¬ (false = true) by decide)] at H; exact H
   clear H; have H := H1; clear H1; have H' := Aside0.mk H; clear H
   go_wp2_with (first | ((with_reducible refine gate_callee (f := 27) rfl ?_); refine gl_ (some 6) Try.func27 #[.int .i64 a1, .int .i64 1, .int .i64 8] ?_; (with_reducible refine (spec_l1In.calls a1 1 8 false _ A5.out).mono ?_); rintro e w' ⟨rfl, ⟨nd, rfl⟩⟩; refine ⟨_, rfl, ?_⟩))
   go_meet
   case rel => exact ⟨_, (true), vv, H', ⟨by first | omega | exact Nat.le_refl _⟩, ⟨zB aa.out⟩, ⟨zS HB.out⟩⟩
 case rest =>
  clear HC3
  try clear c2
  try clear p2
  try clear c6
  try clear c7
  try clear ad
  try clear an
  try clear aj ak
  try clear ao ap
  try clear al am
  try clear aq ar
  obtain ⟨kq, ae, rfl, HA, HJ2, aa, HB⟩ := hcut
  cases kq with
  | zero => exact absurd HA.out (by simp [spec_WordOk.j0])
  | succ kj2 =>
   have H := HA.out; clear HA; simp only [spec_WordOk.j0] at H
   by_cases ah : ae = true
   ·subst ah
    have H1 : (some false) = some r := by rw [if_pos rfl] at H; exact H
    clear H; have H := H1; clear H1; obtain rfl := Option.some.inj H
    go_wp2
    go_ret; exact ⟨vw, zS HB.out⟩
   ·replace ah := Bool.eq_false_iff.mpr ah; subst ah
    have H1 : ((spec_l3Letters.f kj2 l0_0 a1).bind fun ag => (if ag = true then ((spec_l3Letters.f kj2 l0_1 a1).bind fun ac => (some ac)) else (some false))) = some r := by rw [if_neg (show ¬ (false = true) by decide)] at H; exact H
    clear H; have H := H1; clear H1; replace H := bI H; obtain ⟨ag, au, H⟩ := H; replace H : (if ag = true then ((spec_l3Letters.f kj2 l0_1 a1).bind fun ac => (some ac)) else (some false)) = some r := H; have az := Aside0.mk au; clear au
    by_cases ai : ag = true
    ·subst ai
     have H1 : ((spec_l3Letters.f kj2 l0_1 a1).bind fun ac => (some ac)) = some r := by rw [if_pos rfl] at H; exact H
     clear H; have H := H1; clear H1; replace H := bI H; obtain ⟨ac, av, H⟩ := H; replace H : (some ac) = some r := H; have aJ := Aside0.mk av; clear av; obtain rfl := Option.some.inj H; obtain ⟨aA, aB, aC, aD⟩ := cz2 aa
     go_wp2_with (first | ((with_reducible refine gate_callee (f := 28) rfl ?_); refine gl_ (some 24) Try.func28 #[.slice A0_0 l0_0.length c0_0, .int .i64 a1] ?_; (with_reducible refine (spec_l3Letters.calls kj2 _ _ l0_0 a1 true _ ?side1 ?side2 az.out).mono ?_); (case side1 => exact zC (Kd.C_below HR0_0.out HB.out)); (case side2 => exact HC0_0.out); rintro e w' ⟨rfl, ⟨nd, rfl⟩⟩; refine ⟨_, rfl, ?_⟩) | (go_at_call 28; (with_reducible refine (spec_l3Letters.calls kj2 _ _ l0_1 a1 ac _ ?side1 ?side2 aJ.out).mono ?_); (case side1 => repeat (first | exact (Kd.C_below HR0_1.out (zS HB.out)) | (with_reducible refine Kd.C_alloc ?_ _) | (with_reducible refine Kd.C_drewN ?_ _) | (with_reducible refine Kd.C_drew ?_))); (case side2 => exact HC0_1.out); rintro e w' ⟨rfl, ⟨nd, rfl⟩⟩))
     go_ret; exact ⟨vw, zS HB.out⟩
    ·replace ai := Bool.eq_false_iff.mpr ai; subst ai
     have H1 : (some false) = some r := by rw [if_neg (show ¬ (false = true) by decide)] at H; exact H
     clear H; have H := H1; clear H1; obtain rfl := Option.some.inj H; obtain ⟨aE, aF, aG, aH⟩ := cz2 aa
     go_wp2_with (first | ((with_reducible refine gate_callee (f := 28) rfl ?_); refine gl_ (some 24) Try.func28 #[.slice A0_0 l0_0.length c0_0, .int .i64 a1] ?_; (with_reducible refine (spec_l3Letters.calls kj2 _ _ l0_0 a1 false _ ?side1 ?side2 az.out).mono ?_); (case side1 => exact zC (Kd.C_below HR0_0.out HB.out)); (case side2 => exact HC0_0.out); rintro e w' ⟨rfl, ⟨nd, rfl⟩⟩; refine ⟨_, rfl, ?_⟩))
     go_ret; exact ⟨vw, zS HB.out⟩


/-! ### spec_l3Right: function 34 -/
def spec_l3Right.f (k : Nat) (l0_0 : List Int) (l0_1 : List Int) : Option (Bool) := (spec_WordOk.f k l0_0 l0_1 8).bind fun t132 => (some t132)
theorem spec_l3Right.mono : ∀ a0 a1 k, LeO (spec_l3Right.f k a0 a1) (spec_l3Right.f (k + 1) a0 a1) := by
 intro a0 a1 k
 unfold spec_l3Right.f
 repeat' first
   | (with_reducible exact spec_WordOk.mono _ _ _ _)
   | (with_reducible exact LeO.refl _)
   | (with_reducible exact LeO.none _)
   | (with_reducible refine LeO.ite ?_ ?_)
   | (with_reducible refine LeO.bind ?_ (fun _ => ?_))
   | exact spec_WordOk.mono _ _ _ _
   | exact LeO.none _
   | refine LeO.ite ?_ ?_
   | refine LeO.bind ?_ (fun _ => ?_)
open Go.Proofs.Ytbdcchbhelehcaa.Short2 in
set_option maxHeartbeats 8000000 in
set_option maxRecDepth 100000 in
theorem spec_l3Right.calls (k : Nat) (A0_0 : Option Addr) (c0_0 : Nat) (l0_0 : List Int) (A0_1 : Option Addr) (c0_1 : Nat) (l0_1 : List Int) (r : Bool) (w : World) (hr0_0 : Kd.C (Kd.int .i64) w A0_0 l0_0.length l0_0) (hc0_0 : l0_0.length ≤ c0_0) (hr0_1 : Kd.C (Kd.int .i64) w A0_1 l0_1.length l0_1) (hc0_1 : l0_1.length ≤ c0_1) (h : spec_l3Right.f k l0_0 l0_1 = some r) :
  Calls Try.prog 34 #[.agg #[.slice A0_0 l0_0.length c0_0, .slice A0_1 l0_1.length c0_1]] w fun e w' => e = .returned (.bool r) ∧ Below w.heap.size w w' := by
 have hu26 := Try.underlying26; have HR0_0 := Aside0.mk hr0_0; have HC0_0 := Aside0.mk hc0_0; clear hr0_0 hc0_0; have HR0_1 := Aside0.mk hr0_1; have HC0_1 := Aside0.mk hc0_1; clear hr0_1 hc0_1; have HB := Aside0.mk (Below.refl w.heap.size w); have H : ((spec_WordOk.f k l0_0 l0_1 8).bind fun aa => (some aa)) = some r := h; clear h; replace H := bI H; obtain ⟨aa, ac, H⟩ := H; replace H : (some aa) = some r := H; have A2 := Aside0.mk ac; clear ac; obtain rfl := Option.some.inj H
 go_enter Try.func34, Try.ntmps34
 go_wp2_with (first | ((with_reducible refine gate_dst (N := 1) rfl ?_); refine bx_ 1 #[.slice A0_0 l0_0.length c0_0, .slice A0_1 l0_1.length c0_1] 26 ?_; intro ah hg w3 hbox hb; have ab := Aside0.mk (hbox); have ai := xG HB hg; have aj := xG HB hg; replace HB := xS HB hb; clear hb hbox hg; obtain ⟨ad, ae, af, ag⟩ := cz2 ab) | ((with_reducible refine gate_callee (f := 7) rfl ?_); refine gl_ (some 4) Try.func7 #[.agg #[.slice A0_0 l0_0.length c0_0, .slice A0_1 l0_1.length c0_1], .int .i64 8] ?_; (with_reducible refine (spec_WordOk.calls k _ _ l0_0 _ _ l0_1 8 aa _ ?side1 ?side2 ?side3 ?side4 A2.out).mono ?_); (case side1 => exact zC (Kd.C_below HR0_0.out HB.out)); (case side2 => exact HC0_0.out); (case side3 => exact zC (Kd.C_below HR0_1.out HB.out)); (case side4 => exact HC0_1.out); rintro e w5 ⟨rfl, hb⟩; refine ⟨_, rfl, ?_⟩; replace ab := xB ab hb; replace HB := xS HB hb; (try clear hb); (try clear hb2); (try clear hk); (try clear hi)))
 go_ret; exact ⟨vw, zS HB.out⟩


/-! ### spec_l3Told: function 35 -/
def spec_l3Told.f (k : Nat) (l0_0 : List Int) (l0_1 : List Int) : Option (List Int × List Int × Bool) := (spec_l3Right.f k l0_0 l0_1).bind fun t135 => (if t135 = true then (some (l0_0, l0_1, true)) else (some (([] : List Int), ([] : List Int), false)))
theorem spec_l3Told.mono : ∀ a0 a1 k, LeO (spec_l3Told.f k a0 a1) (spec_l3Told.f (k + 1) a0 a1) := by
 intro a0 a1 k
 unfold spec_l3Told.f
 repeat' first
   | (with_reducible exact spec_l3Right.mono _ _ _)
   | (with_reducible exact LeO.refl _)
   | (with_reducible exact LeO.none _)
   | (with_reducible refine LeO.ite ?_ ?_)
   | (with_reducible refine LeO.bind ?_ (fun _ => ?_))
   | exact spec_l3Right.mono _ _ _
   | exact LeO.none _
   | refine LeO.ite ?_ ?_
   | refine LeO.bind ?_ (fun _ => ?_)
open Go.Proofs.Ytbdcchbhelehcaa.Short2 in
set_option maxHeartbeats 8000000 in
set_option maxRecDepth 100000 in
theorem spec_l3Told.calls (k : Nat) (P0_0_ : Nat → Prop) (u9000_ : Value) (l0_0 : List Int) (P0_1_ : Nat → Prop) (u9001_ : Value) (l0_1 : List Int) (r1 : List Int) (r2 : List Int) (r3 : Bool) (w0 w : World) (hB : Below w0.heap.size w0 w) (ho0_0 : Kd.R (Kd.int .i64) 3 w w0.heap.size P0_0_ u9000_ l0_0) (hp0_0_0_1 : ∀ k_, P0_0_ k_ → ¬ P0_1_ k_) (ho0_1 : Kd.R (Kd.int .i64) 3 w w0.heap.size P0_1_ u9001_ l0_1) (hp0_1_0_0 : ∀ k_, P0_1_ k_ → ¬ P0_0_ k_) (h : spec_l3Told.f k l0_0 l0_1 = some (r1, r2, r3)) :
  Calls Try.prog 35 #[.agg #[u9000_, u9001_]] w fun e w' => ∃ v0_ v1_ : Value, e = .returned (.tuple #[.agg #[v0_, v1_], .bool r3]) ∧ Kd.R (Kd.int .i64) 3 w' w0.heap.size (fun k_ => ((P0_0_ k_ ∨ P0_1_ k_) ∨ w.heap.size ≤ k_) ∧ some k_ ≠ (v1_ : Value).ownBlock) v0_ r1 ∧ Kd.R (Kd.int .i64) 3 w' w0.heap.size (fun k_ => ((P0_0_ k_ ∨ P0_1_ k_) ∨ w.heap.size ≤ k_) ∧ some k_ ≠ (v0_ : Value).ownBlock) v1_ r2 ∧ Below w0.heap.size w0 w' ∧ Kept w w' (fun k_ => P0_0_ k_ ∨ P0_1_ k_) := by
 have hu26 := Try.underlying26; have HO0_0 := Aside0.mk (show Kd.R (Kd.int .i64) 3 w w0.heap.size (fun k_ => ((P0_0_ k_ ∨ P0_1_ k_) ∨ w.heap.size ≤ k_) ∧ some k_ ≠ (u9001_ : Value).ownBlock) u9000_ l0_0 from Kd.R_mono ho0_0 (fun k_ hk => ⟨(.inl (.inl hk)), fun e_ => hp0_0_0_1 k_ hk (ho0_1.1 k_ e_.symm)⟩)); have HO0_1 := Aside0.mk (show Kd.R (Kd.int .i64) 3 w w0.heap.size (fun k_ => ((P0_0_ k_ ∨ P0_1_ k_) ∨ w.heap.size ≤ k_) ∧ some k_ ≠ (u9000_ : Value).ownBlock) u9001_ l0_1 from Kd.R_mono ho0_1 (fun k_ hk => ⟨(.inl (.inr hk)), fun e_ => hp0_1_0_0 k_ hk (ho0_0.1 k_ e_.symm)⟩)); have HK := Aside0.mk (Kept.refl w (fun k_ => P0_0_ k_ ∨ P0_1_ k_)); have HW0 := Aside0.mk hB.size; have HB := Aside0.mk hB; clear hB; have H : ((spec_l3Right.f k l0_0 l0_1).bind fun ao => (if ao = true then (some (l0_0, l0_1, true)) else (some (([] : List Int), ([] : List Int), false)))) = some (r1, r2, r3) := h; clear h; replace H := bI H; obtain ⟨ao, aF, H⟩ := H; replace H : (if ao = true then (some (l0_0, l0_1, true)) else (some (([] : List Int), ([] : List Int), false))) = some (r1, r2, r3) := H; have A2 := Aside0.mk aF; clear aF
 by_cases c3 : ao = true
 ·subst c3
  have H1 : (some (l0_0, l0_1, true)) = some (r1, r2, r3) := by rw [if_pos rfl] at H; exact H
  clear H; have H := H1; clear H1; simp only [Option.some.injEq, Prod.mk.injEq] at H; obtain ⟨rfl, rfl, rfl⟩ := H; obtain ⟨ax, ay, aY⟩ := Kd.R_slice HO0_0.out; subst aY; obtain ⟨az, aA, aZ⟩ := Kd.R_slice HO0_1.out; subst aZ
  go_enter Try.func35, Try.ntmps35
  go_wp2_with (first | ((with_reducible refine gate_dst (N := 1) rfl ?_); refine bx_ 1 #[.slice ax l0_0.length ay, .slice az l0_1.length aA] 26 ?_; intro am hg w6 hbox hb; have ac := xR HO0_0 hb; have ad := xR HO0_1 hb; have ae := Aside0.mk (Kept.below (S := (fun k_ => P0_0_ k_ ∨ P0_1_ k_)) (by repeat (first | (with_reducible first | exact HK.out | apply Kept.alloc | apply Kept.drewN | apply Kept.drew) | exact HK.out)) hb); have af := xS HB hb; have ag := Aside0.mk (hbox); have ah := Aside0.mk ((by rw [hg]; exact (by first | exact HK.out.1 | exact (show Kept w _ (fun k_ => P0_0_ k_ ∨ P0_1_ k_) from by repeat (first | (with_reducible first | exact HK.out | apply Kept.alloc | apply Kept.drewN | apply Kept.drew) | exact HK.out)).1) : w.heap.size ≤ am)); have ak := Aside0.mk ((by rw [hg]; exact (below_size (zS HB.out)) : w0.heap.size ≤ am)); clear HO0_0; clear HO0_1; clear HK; clear HB; have HO0_0 := ac; have HO0_1 := ad; have HK := ae; have HB := af; have aa := ag; have ai := ah; have ap := ak; clear ac ad ae af ag ah ak; clear hb hbox hg) | ((with_reducible refine gate_dst (N := 2) rfl ?_); refine bx_ 2 #[.slice none 0 0, .slice none 0 0] 26 ?_; intro aj hg w7 hbox hb; have ac := xR HO0_0 hb; have ad := xR HO0_1 hb; have ae := xB aa hb; have af := Aside0.mk (Kept.below (S := (fun k_ => P0_0_ k_ ∨ P0_1_ k_)) (by repeat (first | (with_reducible first | exact HK.out | apply Kept.alloc | apply Kept.drewN | apply Kept.drew | refine Kept.setCell ?_ (.inr ai.out) _) | exact HK.out)) hb); have ag := xS HB hb; have ah := Aside0.mk (hbox); have ak := Aside0.mk ((by rw [hg]; exact (by first | exact HK.out.1 | exact (show Kept w _ (fun k_ => P0_0_ k_ ∨ P0_1_ k_) from by repeat (first | (with_reducible first | exact HK.out | apply Kept.alloc | apply Kept.drewN | apply Kept.drew | refine Kept.setCell ?_ (.inr ai.out) _) | exact HK.out)).1) : w.heap.size ≤ aj)); have ar := Aside0.mk ((by rw [hg]; exact (below_size (zS HB.out)) : w0.heap.size ≤ aj)); have au := xN aa hg; have av := xM aa hg; clear HO0_0; clear HO0_1; clear aa; clear HK; clear HB; have HO0_0 := ac; have HO0_1 := ad; have aa := ae; have HK := af; have HB := ag; have ab := ah; have an := ak; have aq := ar; have al := au; have aw := av; clear ac ad ae af ag ah ak ar au av; clear hb hbox hg; obtain ⟨bg, bh⟩ := nn al; obtain ⟨ba, bb, bc, bd⟩ := cz2 aa) | ((with_reducible refine gate_callee (f := 34) rfl ?_); refine gl_ (some 5) Try.func34 #[.agg #[.slice ax l0_0.length ay, .slice az l0_1.length aA]] ?_; (with_reducible refine (spec_l3Right.calls k _ _ l0_0 _ _ l0_1 true _ ?side1 ?side2 ?side3 ?side4 A2.out).mono ?_); (case side1 => exact sC HO0_0); (case side2 => exact sL HO0_0); (case side3 => exact sC HO0_1); (case side4 => exact sL HO0_1); rintro e bi ⟨rfl, hb⟩; refine ⟨_, rfl, ?_⟩; have ac := xR HO0_0 hb; have ad := xR HO0_1 hb; have ae := xB aa hb; have af := xB ab hb; have ag := Aside0.mk (Kept.below (S := (fun k_ => P0_0_ k_ ∨ P0_1_ k_)) (by repeat (first | (with_reducible first | exact HK.out | apply Kept.alloc | apply Kept.drewN | apply Kept.drew | refine Kept.setCell ?_ (.inr ai.out) _ | refine Kept.setCell ?_ (.inr an.out) _) | exact HK.out)) hb); have ah := xS HB hb; clear HO0_0; clear HO0_1; clear aa; clear ab; clear HK; clear HB; have HO0_0 := ac; have HO0_1 := ad; have aa := ae; have ab := af; have HK := ag; have HB := ah; clear ac ad ae af ag ah; (try clear hb); (try clear hb2); (try clear hk); (try clear hi); obtain ⟨aI, aJ, aK, aL⟩ := cz2 aa; obtain ⟨aM, aN, aO, aP⟩ := cz2 ab))
  refine bodyPost_ret (results_ct rfl _ _ aj 26 #[.slice ax l0_0.length ay, .slice az l0_1.length aA] (0, 0) _ rfl (by (with_reducible repeat (first | refine blk_drewN ?_ _ | refine blk_drew ?_ | refine blk_alloc ?_ _)); refine blk_put (cs := #[.slice ax l0_0.length ay, .slice none 0 0]) ?_ 1 _ rfl; (with_reducible repeat (first | refine blk_drewN ?_ _ | refine blk_drew ?_ | refine blk_alloc ?_ _)); refine blk_put (cs := #[.slice none 0 0, .slice none 0 0]) ?_ 0 _ rfl; (with_reducible repeat (first | refine blk_drewN ?_ _ | refine blk_drew ?_ | refine blk_alloc ?_ _)); exact ab.out) Try.underlying26 rfl (by kernel_rfl)) rfl ?_; exact ⟨_, _, vw, rM (Aside0.mk (yF2 HO0_0 ab)) (fun _ hk => ⟨hk.1.1, hk.1.2⟩), by (with_reducible repeat (first | apply Kd.R_alloc | apply Kd.R_drewN | apply Kd.R_drew)); exact Kd.R_mono (yF2 HO0_1 ab) (fun _ hk => ⟨hk.1.1, hk.1.2⟩), by repeat (first | (with_reducible first | exact HB.out | apply below_alloc | apply pw_below_drewN | apply below_drew1 | refine below_set ?_ ap.out | refine below_set ?_ aq.out) | exact HB.out), by repeat (first | (with_reducible first | exact HK.out | apply Kept.alloc | apply Kept.drewN | apply Kept.drew | refine Kept.setCell ?_ (.inr ai.out) _ | refine Kept.setCell ?_ (.inr an.out) _) | exact HK.out)⟩
 ·replace c3 := Bool.eq_false_iff.mpr c3; subst c3
  have H1 : (some (([] : List Int), ([] : List Int), false)) = some (r1, r2, r3) := by rw [if_neg (show ¬ (false = true) by decide)] at H; exact H
  clear H; have H := H1; clear H1; simp only [Option.some.injEq, Prod.mk.injEq] at H; obtain ⟨rfl, rfl, rfl⟩ := H; obtain ⟨aB, aC, aG⟩ := Kd.R_slice HO0_0.out; subst aG; obtain ⟨aD, aE, aH⟩ := Kd.R_slice HO0_1.out; subst aH
  go_enter Try.func35, Try.ntmps35
  go_wp2_with (first | ((with_reducible refine gate_dst (N := 1) rfl ?_); refine bx_ 1 #[.slice aB l0_0.length aC, .slice aD l0_1.length aE] 26 ?_; intro am hg bj hbox hb; have ac := xR HO0_0 hb; have ad := xR HO0_1 hb; have ae := Aside0.mk (Kept.below (S := (fun k_ => P0_0_ k_ ∨ P0_1_ k_)) (by repeat (first | (with_reducible first | exact HK.out | apply Kept.alloc | apply Kept.drewN | apply Kept.drew) | exact HK.out)) hb); have af := xS HB hb; have ag := Aside0.mk (hbox); have ah := Aside0.mk ((by rw [hg]; exact (by first | exact HK.out.1 | exact (show Kept w _ (fun k_ => P0_0_ k_ ∨ P0_1_ k_) from by repeat (first | (with_reducible first | exact HK.out | apply Kept.alloc | apply Kept.drewN | apply Kept.drew) | exact HK.out)).1) : w.heap.size ≤ am)); have ak := Aside0.mk ((by rw [hg]; exact (below_size (zS HB.out)) : w0.heap.size ≤ am)); clear HO0_0; clear HO0_1; clear HK; clear HB; have HO0_0 := ac; have HO0_1 := ad; have HK := ae; have HB := af; have aa := ag; have ai := ah; have ap := ak; clear ac ad ae af ag ah ak; clear hb hbox hg) | ((with_reducible refine gate_dst (N := 2) rfl ?_); refine bx_ 2 #[.slice none 0 0, .slice none 0 0] 26 ?_; intro aj hg bk hbox hb; have ac := xR HO0_0 hb; have ad := xR HO0_1 hb; have ae := xB aa hb; have af := Aside0.mk (Kept.below (S := (fun k_ => P0_0_ k_ ∨ P0_1_ k_)) (by repeat (first | (with_reducible first | exact HK.out | apply Kept.alloc | apply Kept.drewN | apply Kept.drew | refine Kept.setCell ?_ (.inr ai.out) _) | exact HK.out)) hb); have ag := xS HB hb; have ah := Aside0.mk (hbox); have ak := Aside0.mk ((by rw [hg]; exact (by first | exact HK.out.1 | exact (show Kept w _ (fun k_ => P0_0_ k_ ∨ P0_1_ k_) from by repeat (first | (with_reducible first | exact HK.out | apply Kept.alloc | apply Kept.drewN | apply Kept.drew | refine Kept.setCell ?_ (.inr ai.out) _) | exact HK.out)).1) : w.heap.size ≤ aj)); have ar := Aside0.mk ((by rw [hg]; exact (below_size (zS HB.out)) : w0.heap.size ≤ aj)); have au := xN aa hg; have av := xM aa hg; clear HO0_0; clear HO0_1; clear aa; clear HK; clear HB; have HO0_0 := ac; have HO0_1 := ad; have aa := ae; have HK := af; have HB := ag; have ab := ah; have an := ak; have aq := ar; have al := au; have aw := av; clear ac ad ae af ag ah ak ar au av; clear hb hbox hg; obtain ⟨be, bf⟩ := nn al; obtain ⟨aQ, aR, aS, aT⟩ := cz2 aa) | ((with_reducible refine gate_callee (f := 34) rfl ?_); refine gl_ (some 5) Try.func34 #[.agg #[.slice aB l0_0.length aC, .slice aD l0_1.length aE]] ?_; (with_reducible refine (spec_l3Right.calls k _ _ l0_0 _ _ l0_1 false _ ?side1 ?side2 ?side3 ?side4 A2.out).mono ?_); (case side1 => exact sC HO0_0); (case side2 => exact sL HO0_0); (case side3 => exact sC HO0_1); (case side4 => exact sL HO0_1); rintro e bl ⟨rfl, hb⟩; refine ⟨_, rfl, ?_⟩; have ac := xR HO0_0 hb; have ad := xR HO0_1 hb; have ae := xB aa hb; have af := xB ab hb; have ag := Aside0.mk (Kept.below (S := (fun k_ => P0_0_ k_ ∨ P0_1_ k_)) (by repeat (first | (with_reducible first | exact HK.out | apply Kept.alloc | apply Kept.drewN | apply Kept.drew | refine Kept.setCell ?_ (.inr ai.out) _ | refine Kept.setCell ?_ (.inr an.out) _) | exact HK.out)) hb); have ah := xS HB hb; clear HO0_0; clear HO0_1; clear aa; clear ab; clear HK; clear HB; have HO0_0 := ac; have HO0_1 := ad; have aa := ae; have ab := af; have HK := ag; have HB := ah; clear ac ad ae af ag ah; (try clear hb); (try clear hb2); (try clear hk); (try clear hi); obtain ⟨aU, aV, aW, aX⟩ := cz2 ab))
  refine bodyPost_ret (results_ct rfl _ _ aj 26 #[.slice none 0 0, .slice none 0 0] (0, 0) _ rfl (by (with_reducible repeat (first | refine blk_drewN ?_ _ | refine blk_drew ?_ | refine blk_alloc ?_ _)); refine blk_put (cs := #[.slice none 0 0, .slice none 0 0]) ?_ 1 _ rfl; (with_reducible repeat (first | refine blk_drewN ?_ _ | refine blk_drew ?_ | refine blk_alloc ?_ _)); refine blk_put (cs := #[.slice none 0 0, .slice none 0 0]) ?_ 0 _ rfl; (with_reducible repeat (first | refine blk_drewN ?_ _ | refine blk_drew ?_ | refine blk_alloc ?_ _)); exact ab.out) Try.underlying26 rfl (by kernel_rfl)) rfl ?_; exact ⟨_, _, vw, by first | exact Kd.R_nil _ _ _ _ _ | exact Kd.N_nil _ _ _ _ _ | exact Kd.V_nil _ _ _ _ _ | exact Kd.Q_nil _ _ _ _ _ | exact Kd.S_nil _ _ _ _ _, by first | exact Kd.R_nil _ _ _ _ _ | exact Kd.N_nil _ _ _ _ _ | exact Kd.V_nil _ _ _ _ _ | exact Kd.Q_nil _ _ _ _ _ | exact Kd.S_nil _ _ _ _ _, by repeat (first | (with_reducible first | exact HB.out | apply below_alloc | apply pw_below_drewN | apply below_drew1 | refine below_set ?_ ap.out | refine below_set ?_ aq.out) | exact HB.out), by repeat (first | (with_reducible first | exact HK.out | apply Kept.alloc | apply Kept.drewN | apply Kept.drew | refine Kept.setCell ?_ (.inr ai.out) _ | refine Kept.setCell ?_ (.inr an.out) _) | exact HK.out)⟩


/-! ### spec_WordPower: function 10 -/
mutual
def spec_WordPower.j0 : Nat → Int → Bool → List Int → List Int → Option (List Int × List Int × Bool)
 | 0, _, _, _, _ => none
 | k + 1, x1, x15, x137000, x137001 => if x15 = true then (some (([] : List Int), ([] : List Int), false)) else ((some (([] : List Int) : List Int)).bind fun y140 => (if y140.length + x137000.length < 17592186044416 then (spec_WordPower.l0 k x1 0 x137000 x137001 (y140 ++ x137000) ([] : List Int)) else (none)))
def spec_WordPower.l0 : Nat → Int → Int → List Int → List Int → List Int → List Int → Option (List Int × List Int × Bool)
 | 0, _, _, _, _, _, _ => none
 | k + 1, x1, x7, x137000, x137001, x147000, x147001 => if x7 < x1 then (if x147001.length + x137001.length < 17592186044416 then (spec_WordPower.l0 k x1 (wrap64 (x7 + 1)) x137000 x137001 x147000 (x147001 ++ x137001)) else (none)) else ((spec_l3Told.f k x147000 x147001).bind fun bt150 => (some (bt150.1, bt150.2.1, bt150.2.2)))
end
def spec_WordPower.f (k : Nat) (l0_0 : List Int) (l0_1 : List Int) (a1 : Int) : Option (List Int × List Int × Bool) := (spec_l3Right.f k l0_0 l0_1).bind fun t138 => (if t138 = true then ((spec_l1In.f a1 1 40).bind fun t139 => (spec_WordPower.j0 k a1 (!t139) l0_0 l0_1)) else (spec_WordPower.j0 k a1 true l0_0 l0_1))
theorem spec_WordPower.mono_l : ∀ k, (∀ y0 y1 y2 y3, LeO (spec_WordPower.j0 k y0 y1 y2 y3) (spec_WordPower.j0 (k + 1) y0 y1 y2 y3)) ∧ (∀ y0 y1 y2 y3 y4 y5, LeO (spec_WordPower.l0 k y0 y1 y2 y3 y4 y5) (spec_WordPower.l0 (k + 1) y0 y1 y2 y3 y4 y5))
 | 0 => ⟨fun _ _ _ _ r h => by simp [spec_WordPower.j0] at h, fun _ _ _ _ _ _ r h => by simp [spec_WordPower.l0] at h⟩
 | k + 1 => by
  obtain ⟨ih0, ih1⟩ := spec_WordPower.mono_l k
  refine ⟨?_, ?_⟩
  ·intro y0 y1 y2 y3
   unfold spec_WordPower.j0
   repeat' first
   | (with_reducible exact ih0 _ _ _ _)
   | (with_reducible exact ih1 _ _ _ _ _ _)
   | (with_reducible exact spec_l3Right.mono _ _ _)
   | (with_reducible exact spec_l3Told.mono _ _ _)
   | (with_reducible exact LeO.refl _)
   | (with_reducible exact LeO.none _)
   | (with_reducible refine LeO.ite ?_ ?_)
   | (with_reducible refine LeO.bind ?_ (fun _ => ?_))
   | exact ih0 _ _ _ _
   | exact ih1 _ _ _ _ _ _
   | exact spec_l3Right.mono _ _ _
   | exact spec_l3Told.mono _ _ _
   | exact LeO.none _
   | refine LeO.ite ?_ ?_
   | refine LeO.bind ?_ (fun _ => ?_)
  ·intro y0 y1 y2 y3 y4 y5
   unfold spec_WordPower.l0
   repeat' first
   | (with_reducible exact ih0 _ _ _ _)
   | (with_reducible exact ih1 _ _ _ _ _ _)
   | (with_reducible exact spec_l3Right.mono _ _ _)
   | (with_reducible exact spec_l3Told.mono _ _ _)
   | (with_reducible exact LeO.refl _)
   | (with_reducible exact LeO.none _)
   | (with_reducible refine LeO.ite ?_ ?_)
   | (with_reducible refine LeO.bind ?_ (fun _ => ?_))
   | exact ih0 _ _ _ _
   | exact ih1 _ _ _ _ _ _
   | exact spec_l3Right.mono _ _ _
   | exact spec_l3Told.mono _ _ _
   | exact LeO.none _
   | refine LeO.ite ?_ ?_
   | refine LeO.bind ?_ (fun _ => ?_)
theorem spec_WordPower.mono : ∀ a0 a1 a2 k, LeO (spec_WordPower.f k a0 a1 a2) (spec_WordPower.f (k + 1) a0 a1 a2) := by
 intro a0 a1 a2 k
 obtain ⟨ih0, ih1⟩ := spec_WordPower.mono_l k
 unfold spec_WordPower.f
 repeat' first
   | (with_reducible exact ih0 _ _ _ _)
   | (with_reducible exact ih1 _ _ _ _ _ _)
   | (with_reducible exact spec_l3Right.mono _ _ _)
   | (with_reducible exact spec_l3Told.mono _ _ _)
   | (with_reducible exact LeO.refl _)
   | (with_reducible exact LeO.none _)
   | (with_reducible refine LeO.ite ?_ ?_)
   | (with_reducible refine LeO.bind ?_ (fun _ => ?_))
   | exact ih0 _ _ _ _
   | exact ih1 _ _ _ _ _ _
   | exact spec_l3Right.mono _ _ _
   | exact spec_l3Told.mono _ _ _
   | exact LeO.none _
   | refine LeO.ite ?_ ?_
   | refine LeO.bind ?_ (fun _ => ?_)
open Go.Proofs.Ytbdcchbhelehcaa.Short2 in
set_option maxHeartbeats 8000000 in
set_option maxRecDepth 100000 in
theorem spec_WordPower.calls (k : Nat) (A0_0 : Option Addr) (c0_0 : Nat) (l0_0 : List Int) (A0_1 : Option Addr) (c0_1 : Nat) (l0_1 : List Int) (a1 : Int) (r1 : List Int) (r2 : List Int) (r3 : Bool) (w : World) (hr0_0 : Kd.C (Kd.int .i64) w A0_0 l0_0.length l0_0) (hc0_0 : l0_0.length ≤ c0_0) (hr0_1 : Kd.C (Kd.int .i64) w A0_1 l0_1.length l0_1) (hc0_1 : l0_1.length ≤ c0_1) (h : spec_WordPower.f k l0_0 l0_1 a1 = some (r1, r2, r3)) :
  Calls Try.prog 10 #[.agg #[.slice A0_0 l0_0.length c0_0, .slice A0_1 l0_1.length c0_1], .int .i64 a1] w fun e w' => ∃ v0_ v1_ : Value, e = .returned (.tuple #[.agg #[v0_, v1_], .bool r3]) ∧ Kd.R (Kd.int .i64) 3 w' w.heap.size (fun k_ => some k_ ≠ (v1_ : Value).ownBlock) v0_ r1 ∧ Kd.R (Kd.int .i64) 3 w' w.heap.size (fun k_ => some k_ ≠ (v0_ : Value).ownBlock) v1_ r2 ∧ Below w.heap.size w w' := by
 have hu26 := Try.underlying26; have HR0_0 := Aside0.mk hr0_0; have HC0_0 := Aside0.mk hc0_0; clear hr0_0 hc0_0; have HR0_1 := Aside0.mk hr0_1; have HC0_1 := Aside0.mk hc0_1; clear hr0_1 hc0_1; have HB := Aside0.mk (Below.refl w.heap.size w); have H : ((spec_l3Right.f k l0_0 l0_1).bind fun aQ => (if aQ = true then ((spec_l1In.f a1 1 40).bind fun aj => (spec_WordPower.j0 k a1 (!aj) l0_0 l0_1)) else (spec_WordPower.j0 k a1 true l0_0 l0_1))) = some (r1, r2, r3) := h; clear h; have HC3 := Aside0.mk H; clear H
 go_enter Try.func10, Try.ntmps10
 go_upto_region 1 with (first | ((with_reducible refine gate_dst (N := 2) rfl ?_); refine bx_ 2 #[.slice A0_0 l0_0.length c0_0, .slice A0_1 l0_1.length c0_1] 26 ?_; intro bc hg w4 hbox hb; have aa := Aside0.mk (hbox); have cx := xG HB hg; have bz := xG HB hg; replace HB := xS HB hb; clear hb hbox hg) | ((with_reducible refine gate_dst (N := 4) rfl ?_); refine bx_ 4 #[.slice none 0 0, .slice none 0 0] 26 ?_; intro az hg w5 hbox hb; have ab := Aside0.mk (hbox); have cy := xG HB hg; have bA := xG HB hg; replace HB := xS HB hb; have ai := xN aa hg; have au := xM aa hg; replace aa := xB aa hb; clear hb hbox hg))
 (try simp only [Act.put, q3])
 go_cut [15] (fun ct wc => ∃ (kq : Nat) (aA : Bool), ct = .bool aA ∧ Aside0 (spec_WordPower.j0 kq a1 aA l0_0 l0_1 = some (r1, r2, r3)) ∧ Aside0 (kq ≤ k) ∧ Aside0 (wc.heap[bc]? = some (.cells #[(.slice A0_0 l0_0.length c0_0), (.slice A0_1 l0_1.length c0_1)] 26 (0, 0))) ∧ Aside0 (wc.heap[az]? = some (.cells #[(.slice none 0 0), (.slice none 0 0)] 26 (0, 0))) ∧ Aside0 (Below w.heap.size w wc))
 case first =>
  have H := HC3.out; clear HC3; replace H := bI H; obtain ⟨aQ, bH, H⟩ := H; replace H : (if aQ = true then ((spec_l1In.f a1 1 40).bind fun aj => (spec_WordPower.j0 k a1 (!aj) l0_0 l0_1)) else (spec_WordPower.j0 k a1 true l0_0 l0_1)) = some (r1, r2, r3) := H; have A6 := Aside0.mk bH; clear bH
  by_cases c7 : aQ = true
  ·subst c7
   have H1 : ((spec_l1In.f a1 1 40).bind fun aj => (spec_WordPower.j0 k a1 (!aj) l0_0 l0_1)) = some (r1, r2, r3) := by rw [if_pos rfl] at H; exact H
   clear H; have H := H1; clear H1; replace H := bI H; obtain ⟨aj, bJ, H⟩ := H; replace H : (spec_WordPower.j0 k a1 (!aj) l0_0 l0_1) = some (r1, r2, r3) := H; have A8 := Aside0.mk bJ; clear bJ; have H' := Aside0.mk H; clear H; obtain ⟨cX, cY⟩ := nn ai; obtain ⟨aE, aG, aH, aI⟩ := cz2 aa
   go_wp2_with (first | ((with_reducible refine gate_callee (f := 34) rfl ?_); refine gl_ (some 9) Try.func34 #[.agg #[.slice A0_0 l0_0.length c0_0, .slice A0_1 l0_1.length c0_1]] ?_; (with_reducible refine (spec_l3Right.calls k _ _ l0_0 _ _ l0_1 true _ ?side1 ?side2 ?side3 ?side4 A6.out).mono ?_); (case side1 => exact zC (Kd.C_below HR0_0.out HB.out)); (case side2 => exact HC0_0.out); (case side3 => exact zC (Kd.C_below HR0_1.out HB.out)); (case side4 => exact HC0_1.out); rintro e db ⟨rfl, hb⟩; refine ⟨_, rfl, ?_⟩; replace aa := xB aa hb; replace ab := xB ab hb; replace HB := xS HB hb; (try clear hb); (try clear hb2); (try clear hk); (try clear hi)) | (go_at_call 27; (with_reducible refine (spec_l1In.calls a1 1 40 aj _ A8.out).mono ?_); rintro e w' ⟨rfl, ⟨nd, rfl⟩⟩))
   go_meet
   case rel => exact ⟨_, (!aj), vv, H', ⟨by first | omega | exact Nat.le_refl _⟩, ⟨zB aa.out⟩, ⟨zB ab.out⟩, ⟨zS HB.out⟩⟩
  ·replace c7 := Bool.eq_false_iff.mpr c7; subst c7
   have H1 : (spec_WordPower.j0 k a1 true l0_0 l0_1) = some (r1, r2, r3) := by rw [if_neg (show ¬ (false = true) by decide)] at H; exact H
   clear H; have H := H1; clear H1; have H' := Aside0.mk H; clear H; obtain ⟨cz, cA⟩ := nn ai; obtain ⟨aJ, aK, aM, aN⟩ := cz2 aa
   go_wp2_with (first | ((with_reducible refine gate_callee (f := 34) rfl ?_); refine gl_ (some 9) Try.func34 #[.agg #[.slice A0_0 l0_0.length c0_0, .slice A0_1 l0_1.length c0_1]] ?_; (with_reducible refine (spec_l3Right.calls k _ _ l0_0 _ _ l0_1 false _ ?side1 ?side2 ?side3 ?side4 A6.out).mono ?_); (case side1 => exact zC (Kd.C_below HR0_0.out HB.out)); (case side2 => exact HC0_0.out); (case side3 => exact zC (Kd.C_below HR0_1.out HB.out)); (case side4 => exact HC0_1.out); rintro e dc ⟨rfl, hb⟩; refine ⟨_, rfl, ?_⟩; replace aa := xB aa hb; replace ab := xB ab hb; replace HB := xS HB hb; (try clear hb); (try clear hb2); (try clear hk); (try clear hi)))
   go_meet
   case rel => exact ⟨_, (true), vv, H', ⟨by first | omega | exact Nat.le_refl _⟩, ⟨zB aa.out⟩, ⟨zB ab.out⟩, ⟨zS HB.out⟩⟩
 case rest =>
  clear HC3
  try clear c1
  try clear p2
  try clear c3
  try clear c7
  try clear c9
  try clear cu
  try clear cv
  try clear aE aG
  try clear aJ aK
  try clear aH aI
  try clear aM aN
  obtain ⟨kq, aA, rfl, HA, HJ2, aa, ab, HB⟩ := hcut
  cases kq with
  | zero => exact absurd HA.out (by simp [spec_WordPower.j0])
  | succ kj2 =>
   have H := HA.out; clear HA; simp only [spec_WordPower.j0] at H
   by_cases aU : aA = true
   ·subst aU
    have H1 : (some (([] : List Int), ([] : List Int), false)) = some (r1, r2, r3) := by rw [if_pos rfl] at H; exact H
    clear H; have H := H1; clear H1; simp only [Option.some.injEq, Prod.mk.injEq] at H; obtain ⟨rfl, rfl, rfl⟩ := H; obtain ⟨cB, cC⟩ := nn au; obtain ⟨bi, bj, bk, bl⟩ := cz2 ab
    go_wp2
    refine bodyPost_ret (results_ct rfl _ _ az 26 #[.slice none 0 0, .slice none 0 0] (0, 0) _ rfl (by (with_reducible repeat (first | refine blk_drewN ?_ _ | refine blk_drew ?_ | refine blk_alloc ?_ _)); refine blk_put (cs := #[.slice none 0 0, .slice none 0 0]) ?_ 1 _ rfl; (with_reducible repeat (first | refine blk_drewN ?_ _ | refine blk_drew ?_ | refine blk_alloc ?_ _)); refine blk_put (cs := #[.slice none 0 0, .slice none 0 0]) ?_ 0 _ rfl; (with_reducible repeat (first | refine blk_drewN ?_ _ | refine blk_drew ?_ | refine blk_alloc ?_ _)); exact ab.out) Try.underlying26 rfl (by kernel_rfl)) rfl ?_; exact ⟨_, _, vw, by first | exact Kd.R_nil _ _ _ _ _ | exact Kd.N_nil _ _ _ _ _ | exact Kd.V_nil _ _ _ _ _ | exact Kd.Q_nil _ _ _ _ _ | exact Kd.S_nil _ _ _ _ _, by first | exact Kd.R_nil _ _ _ _ _ | exact Kd.N_nil _ _ _ _ _ | exact Kd.V_nil _ _ _ _ _ | exact Kd.Q_nil _ _ _ _ _ | exact Kd.S_nil _ _ _ _ _, zS HB.out⟩
   ·replace aU := Bool.eq_false_iff.mpr aU; subst aU
    have H1 : ((some (([] : List Int) : List Int)).bind fun am => (if am.length + l0_0.length < 17592186044416 then (spec_WordPower.l0 kj2 a1 0 l0_0 l0_1 (am ++ l0_0) ([] : List Int)) else (none))) = some (r1, r2, r3) := by rw [if_neg (show ¬ (false = true) by decide)] at H; exact H
    clear H; have H := H1; clear H1; obtain ⟨am, ap⟩ : ∃ y_ : List Int, y_ = (([] : List Int)) := ⟨_, rfl⟩
    replace H : (if am.length + l0_0.length < 17592186044416 then (spec_WordPower.l0 kj2 a1 0 l0_0 l0_1 (am ++ l0_0) ([] : List Int)) else (none)) = some (r1, r2, r3) := by first | (rw [ap]; with_reducible exact H) | (have H2_ := (Option.bind_some _ _).symm.trans H; rw [ap]; with_reducible exact H2_) | (have H2_ := (Option.bind_some _ _).symm.trans H; with_reducible exact H2_) | with_reducible exact H | (rw [ap]; exact H) | exact H
    have bd := Aside0.mk ap; clear ap
    by_cases aV : am.length + l0_0.length < 17592186044416
    ·rw [if_pos aV] at H; have LMc18 := Aside0.mk aV; clear aV; obtain ⟨ag, aq⟩ : ∃ y_ : List Int, y_ = (am ++ l0_0) := ⟨_, rfl⟩
     replace H : (spec_WordPower.l0 kj2 a1 0 l0_0 l0_1 ag ([] : List Int)) = some (r1, r2, r3) := by first | (rw [aq]; with_reducible exact H) | (have H2_ := (Option.bind_some _ _).symm.trans H; rw [aq]; with_reducible exact H2_) | (have H2_ := (Option.bind_some _ _).symm.trans H; with_reducible exact H2_) | with_reducible exact H | (rw [aq]; exact H) | exact H
     have bB := Aside0.mk aq; clear aq; have H' := Aside0.mk H; clear H
     go_wp2_with (first | ((with_reducible refine gate_dst (N := 17) rfl ?_); refine Kd.R_lit (Kd.int .i64) _ 3 ?hg (N := 17) ?hd (xs := ([] : List Int)) (inner := []) (ok := fun _ => True) (okp := fun _ => True) ?hr ?hp (fun _ hk => hk) trivial (Below.refl _ _) (Nat.le_refl _) (by simp) ?_; (case hd => rfl); (case hg => rfl); (case hr => first | (go_simp; done) | (go_simp; rfl)); (case hp => exact (Reps.none _ _)); intro bM dd ho20 hb hg_ hnew_; clear hg_ hnew_; (first | rw [← bd.out] at ho20 | (simp only [Int.reduceToNat] at ho20; rw [← bd.out] at ho20)); have aC := rW0 ho20 HB; replace aa := xB aa hb; replace ab := xB ab hb; replace HB := xS HB hb; clear hb ho20; obtain ⟨cD, cE⟩ := nn ai; obtain ⟨bm, bn, bo, bp⟩ := cz2 aa) | ((with_reducible refine gate_builtin (b := .append) (xs := #[.tmp 17, .tmp 19]) rfl ?_); at_builtin; refine Kd.R_append_rows (Kd.int .i64) (w0 := w) w.heap.size rfl (.tmp 17) (.tmp 19) 24 3 (.int .i64 0) 8 rfl Try.underlying24 info3 rfl (by decide) (by omega) bM am l0_0 _ _ _ (fun _ => True) (fun _ => False) rfl rfl ?aO ?aR (fun _ _ h => h) (fun _ h => h.elim) ?aF ?aB ?aS ?aL ?_; (case aR => repeat (first | exact (Kd.C_below HR0_0.out HB.out) | (with_reducible refine Kd.C_alloc ?_ _) | (with_reducible refine Kd.C_drewN ?_ _) | (with_reducible refine Kd.C_drew ?_))); (case aB => exact (zS HB.out)); (case aF => exact (fun _ _ => trivial)); (case aO => exact (zR aC.out)); (case aS => exact (below_size (zS HB.out))); (case aL => have := LMc18.out; omega); intro cZ de ho hb hg hat; rw [← bB.out] at ho; have av := bG aa hg aC; have aw := bG ab hg aC; have ax := Aside0.mk (hb); have ay := Aside0.mk (ho); clear aa; clear ab; clear HB; clear aC; have aa := av; have ab := aw; have HB := ax; have aD := ay; clear av aw ax ay; clear ho hb hg hat; obtain ⟨ak, al, bN⟩ := Kd.R_slice aD.out; subst bN) | ((with_reducible refine gate_dst (N := 6) rfl ?_); refine bx_ 6 #[.slice none 0 0, .slice none 0 0] 26 ?_; intro bC hg df hbox hb; replace aD := xR aD hb; have af := Aside0.mk (hbox); have cF := xG HB hg; have bD := xG HB hg; replace HB := xS HB hb; have bK := xN aa hg; have an := xM aa hg; replace aa := xB aa hb; have bL := xN ab hg; have ao := xM ab hg; replace ab := xB ab hb; clear hb hbox hg; obtain ⟨cG, cH⟩ := nn an; obtain ⟨cI, cJ⟩ := nn ao; obtain ⟨bq, br, bs, bt⟩ := cz2 af))
     go_loopg [7] kj2 (fun kq v7 w' => ∃ (x7_2 : Int) (ae : List Int) (ah : Value), v7 = .int .i64 x7_2 ∧ Aside0 (spec_WordPower.l0 kq a1 x7_2 l0_0 l0_1 ag ae = some (r1, r2, r3)) ∧ Aside0 (kq ≤ kj2) ∧ Aside0 (Kd.R (Kd.int .i64) 3 w' w.heap.size (fun k_ => some k_ ≠ (ah : Value).ownBlock) (.slice ak ag.length al) ag) ∧ Aside0 (Kd.R (Kd.int .i64) 3 w' w.heap.size (fun k_ => some k_ ≠ ((.slice ak ag.length al) : Value).ownBlock) ah ae) ∧ Aside0 (w'.heap[bc]? = some (.cells #[(.slice A0_0 l0_0.length c0_0), (.slice A0_1 l0_1.length c0_1)] 26 (0, 0))) ∧ Aside0 (w'.heap[az]? = some (.cells #[(.slice none 0 0), (.slice none 0 0)] 26 (0, 0))) ∧ Aside0 (w'.heap[bC]? = some (.cells #[(.slice ak ag.length al), ah] 26 (0, 0))) ∧ Aside0 (Below w.heap.size w w'))
     case atStart => exact ⟨(0), (([] : List Int)), (.slice none 0 0), vv, H', ⟨Nat.le_refl _⟩, ⟨rM (Aside0.mk (yF2 aD af)) (fun _ hk => (by simp [Value.ownBlock]))⟩, ⟨by first | exact Kd.R_nil _ _ _ _ _ | exact Kd.N_nil _ _ _ _ _ | exact Kd.V_nil _ _ _ _ _ | exact Kd.Q_nil _ _ _ _ _ | exact Kd.S_nil _ _ _ _ _⟩, ⟨zB aa.out⟩, ⟨zB ab.out⟩, ⟨by (with_reducible repeat (first | refine blk_drewN ?_ _ | refine blk_drew ?_ | refine blk_alloc ?_ _)); refine blk_put (cs := #[.slice ak ag.length al, .slice none 0 0]) ?_ 1 _ rfl; (with_reducible repeat (first | refine blk_drewN ?_ _ | refine blk_drew ?_ | refine blk_alloc ?_ _)); refine blk_put (cs := #[.slice none 0 0, .slice none 0 0]) ?_ 0 _ rfl; (with_reducible repeat (first | refine blk_drewN ?_ _ | refine blk_drew ?_ | refine blk_alloc ?_ _)); exact af.out⟩, ⟨zS HB.out⟩⟩
     case round =>
      clear H'
      try clear c1
      try clear c2
      try clear p2
      try clear c3
      try clear c7
      try clear c9
      try clear cu
      try clear cv
      try clear aU
      try clear dg
      try clear aV
      try clear dh
      try clear di
      try clear dj
      try clear aE aG
      try clear aJ aK
      try clear bi bj
      try clear bm bn
      try clear bq br
      try clear aH aI
      try clear aM aN
      try clear bk bl
      try clear bo bp
      try clear bs bt
      try clear p2
      obtain ⟨x7_2, ae, ah, rfl, HA, HK2, ad, ac, aa, ab, af, HB⟩ := hrel
      cases gk with
      | zero => exact absurd HA.out (by simp [spec_WordPower.l0])
      | succ k2 =>
       have H := HA.out; clear HA; simp only [spec_WordPower.l0] at H
       by_cases aP : x7_2 < a1
       ·rw [if_pos aP] at H; have bE : decide (x7_2 < a1) = true := decide_eq_true aP; clear aP
        by_cases be : ae.length + l0_1.length < 17592186044416
        ·rw [if_pos be] at H; have LMc30 := Aside0.mk be; clear be; obtain ⟨aY, ar⟩ : ∃ y_ : List Int, y_ = (ae ++ l0_1) := ⟨_, rfl⟩
         replace H : (spec_WordPower.l0 k2 a1 (wrap64 (x7_2 + 1)) l0_0 l0_1 ag aY) = some (r1, r2, r3) := by first | (rw [ar]; with_reducible exact H) | (have H2_ := (Option.bind_some _ _).symm.trans H; rw [ar]; with_reducible exact H2_) | (have H2_ := (Option.bind_some _ _).symm.trans H; with_reducible exact H2_) | with_reducible exact H | (rw [ar]; exact H) | exact H
         have bF := Aside0.mk ar; clear ar; have H' := Aside0.mk H; clear H; obtain ⟨cK, cL⟩ := nn an; obtain ⟨cM, cN⟩ := nn ao; obtain ⟨bY, bZ, ca, cb⟩ := cz2 af; obtain ⟨cO, cP⟩ := nn ai; obtain ⟨cc, cd, ce, cf⟩ := cz2 aa
         go_wp2_with (first | ((with_reducible refine gate_builtin (b := .append) (xs := #[.tmp 28, .tmp 30]) rfl ?_); at_builtin; refine Kd.R_append_rows (Kd.int .i64) (w0 := w) w.heap.size rfl (.tmp 28) (.tmp 30) 24 3 (.int .i64 0) 8 rfl Try.underlying24 info3 rfl (by decide) (by omega) ah ae l0_1 _ _ _ (fun k_ => some k_ ≠ (.slice ak ag.length al : Value).ownBlock) (fun _ => False) rfl rfl ?aO ?aR (fun _ _ h => h) (fun _ h => h.elim) ?aF ?aB ?aS ?aL ?_; (case aR => repeat (first | exact (Kd.C_below HR0_1.out HB.out) | (with_reducible refine Kd.C_alloc ?_ _) | (with_reducible refine Kd.C_drewN ?_ _) | (with_reducible refine Kd.C_drew ?_))); (case aB => exact (zS HB.out)); (case aF => exact (fun k_ hk => Kd.fresh' (Kd.R_lt (zR ad.out)) k_ hk)); (case aO => exact (zR ac.out)); (case aS => exact (below_size (zS HB.out))); (case aL => have := LMc30.out; omega); intro da dk ho hb hg hat; rw [← bF.out] at ho; have av := Aside0.mk (Kd.R_after (ok := (fun _ => True)) (rM ad (fun _ hk => ⟨trivial, hk⟩)) hg hat); have aw := bG aa hg ac; have ax := bG ab hg ac; have ay := bG af hg ac; have aW := Aside0.mk (hb); have aX := Aside0.mk (ho); clear ad; clear aa; clear ab; clear af; clear HB; clear ac; have ad := av; have aa := aw; have ab := ax; have af := ay; have HB := aW; have bf := aX; clear av aw ax ay aW aX; clear ho hb hg hat; obtain ⟨bO, bP, bQ⟩ := Kd.R_slice bf.out; subst bQ; obtain ⟨cg, ch, ci, cj⟩ := cz2 af))
         go_roundg k2
         case measure => have := HJ2.out; have := HK2.out; omega
         case rel => exact ⟨(wrap64 (x7_2 + 1)), (aY), (.slice bO aY.length bP), vv, H', ⟨by have := HJ2.out; have := HK2.out; omega⟩, ⟨rM (Aside0.mk (yF1 ad af)) (fun _ hk => hk.1.2)⟩, ⟨rM (Aside0.mk (yF1 bf af)) (fun _ hk => hk.1)⟩, ⟨zB aa.out⟩, ⟨zB ab.out⟩, ⟨by (with_reducible repeat (first | refine blk_drewN ?_ _ | refine blk_drew ?_ | refine blk_alloc ?_ _)); refine blk_put (cs := #[.slice ak ag.length al, ah]) ?_ 1 _ rfl; (with_reducible repeat (first | refine blk_drewN ?_ _ | refine blk_drew ?_ | refine blk_alloc ?_ _)); exact af.out⟩, ⟨zS HB.out⟩⟩
        ·rw [if_neg be] at H; exact absurd H (by simp)
       ·rw [if_neg aP] at H; have bE : decide (x7_2 < a1) = false := decide_eq_false aP; clear aP; replace H := bI H; obtain ⟨⟨aT, aZ, bu⟩, bv, H⟩ := H; replace H : (some (aT, aZ, bu)) = some (r1, r2, r3) := H; have cw := Aside0.mk bv; clear bv; simp only [Option.some.injEq, Prod.mk.injEq] at H; obtain ⟨rfl, rfl, rfl⟩ := H; obtain ⟨cQ, cR⟩ := nn an; obtain ⟨cS, cU⟩ := nn ao; obtain ⟨ck, cl, cm, cn⟩ := cz2 af; obtain ⟨ba, bb, bR⟩ := Kd.R_slice ac.out; subst bR
        go_wp2_with (first | ((with_reducible refine gate_callee (f := 35) rfl ?_); refine gl_ (some 34) Try.func35 #[.agg #[.slice ak ag.length al, .slice ba ae.length bb]] ?_; (with_reducible refine (spec_l3Told.calls k2 (fun k_ => some k_ = (.slice ak ag.length al : Value).ownBlock) (.slice ak ag.length al) ag (fun k_ => some k_ = (.slice ba ae.length bb : Value).ownBlock) (.slice ba ae.length bb) ae aT aZ bu w _ ?side1 ?side2 ?side3 ?side4 ?side5 cw.out).mono ?_); (case side1 => repeat (first | (with_reducible first | exact HB.out | apply below_alloc | apply pw_below_drewN | apply below_drew1 | refine below_set ?_ bz.out | refine below_set ?_ bA.out | refine below_set ?_ bD.out) | exact HB.out)); (case side2 => exact Kd.R_tight rfl ad.out); (case side3 => exact fun k_ e_ => (ad.out.1 k_ e_.symm)); (case side4 => exact Kd.R_tight rfl ac.out); (case side5 => exact fun k_ e_ => (ac.out.1 k_ e_.symm)); rintro e dl ⟨bS, bT, rfl, ho0, ho1, hb, hkp⟩; refine ⟨_, rfl, ?_⟩; have av := Aside0.mk (blk_kept (zB aa.out) hkp (fun hs_ => Or.elim hs_ (fun e_ => (fun e_ => (Kd.R_ne ad.out aa.out (by decide)) e_) e_) (fun e_ => (fun e_ => (Kd.R_ne ac.out aa.out (by decide)) e_) e_))); have aw := Aside0.mk (blk_kept (zB ab.out) hkp (fun hs_ => Or.elim hs_ (fun e_ => (fun e_ => (Kd.R_ne ad.out ab.out (by decide)) e_) e_) (fun e_ => (fun e_ => (Kd.R_ne ac.out ab.out (by decide)) e_) e_))); have ax := Aside0.mk (blk_kept (zB af.out) hkp (fun hs_ => Or.elim hs_ (fun e_ => (fun e_ => (Kd.R_ne ad.out af.out (by decide)) e_) e_) (fun e_ => (fun e_ => (Kd.R_ne ac.out af.out (by decide)) e_) e_))); have ay := Aside0.mk (Kd.R_mono (ok' := fun k_ => some k_ ≠ (bT : Value).ownBlock) ho0 (fun k_ hk_ => hk_.2)); have aW := Aside0.mk (Kd.R_mono (ok' := fun k_ => some k_ ≠ (bS : Value).ownBlock) ho1 (fun k_ hk_ => hk_.2)); have aX := Aside0.mk (hb); clear aa; clear ab; clear af; clear HB; clear ad; clear ac; have aa := av; have ab := aw; have af := ax; have bg := ay; have bh := aW; have HB := aX; clear av aw ax ay aW aX; (try clear hb); (try clear hkp); (try clear ho0); (try clear ho1); obtain ⟨bw, bx, bU⟩ := Kd.R_slice bg.out; subst bU; obtain ⟨cV, cW⟩ := nn au; obtain ⟨co, cp, cq, cr⟩ := cz2 ab; obtain ⟨bV, bW, bX⟩ := Kd.R_slice bh.out; subst bX))
        refine bodyPost_ret (results_ct rfl _ _ az 26 #[.slice bw aT.length bx, .slice bV aZ.length bW] (0, 0) _ rfl (by (with_reducible repeat (first | refine blk_drewN ?_ _ | refine blk_drew ?_ | refine blk_alloc ?_ _)); refine blk_put (cs := #[.slice bw aT.length bx, .slice none 0 0]) ?_ 1 _ rfl; (with_reducible repeat (first | refine blk_drewN ?_ _ | refine blk_drew ?_ | refine blk_alloc ?_ _)); refine blk_put (cs := #[.slice none 0 0, .slice none 0 0]) ?_ 0 _ rfl; (with_reducible repeat (first | refine blk_drewN ?_ _ | refine blk_drew ?_ | refine blk_alloc ?_ _)); exact ab.out) Try.underlying26 rfl (by kernel_rfl)) rfl ?_; exact ⟨_, _, vw, rM (Aside0.mk (yF2 bg ab)) (fun _ hk => hk.1), by (with_reducible repeat (first | apply Kd.R_alloc | apply Kd.R_drewN | apply Kd.R_drew)); exact Kd.R_mono (yF2 bh ab) (fun _ hk => hk.1), zS HB.out⟩
    ·rw [if_neg aV] at H; exact absurd H (by simp)

end Go.Proofs.Ytbdcchbhelehcaa.MFnLetters3
