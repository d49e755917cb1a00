-- Written by a program of this session, out of Lean's print of the translation. Not trusted: Lean checks it.
import Derived.Test.YtiiioldjldghoaaMFnSame3x0
import Derived.Test.YtiiioldjldghoaaMFnSame3x4
namespace Go.Proofs.Ytiiioldjldghoaa.MFnSame3
open Go.RowKit Go.Proofs.YtiiioldjldghoaaW.PrintWords Go.Proofs.YtiiioldjldghoaaW.PrintLast Go.Proofs.YtiiioldjldghoaaW.PrintMore Go.Proofs.Ytiiioldjldghoaa.Short6
attribute [local go_sem] max2_int min2_int max_two min_two max_three min_three max_four min_four   -- for this text's walks alone
set_option linter.unusedVariables false
set_option linter.unusedSimpArgs false


/-- A state of type 26 at block g of W; what its slices lead to came in by w0. -/
def IsS26 (w0 W : World) (g : Nat) (f0 : List Int) (f1 : List Int) : Prop := ∃ A0 c0, ∃ A1 c1, W.heap[g]? = some (.cells #[.slice A0 f0.length c0, .slice A1 f1.length c1] 26 (0, 0)) ∧ w0.heap.size ≤ g ∧ Kd.C (Kd.int .i64) w0 A0 f0.length f0 ∧ Kd.C (Kd.int .i64) w0 A1 f1.length f1
theorem IsS26.grown {w0 W : World} {g : Nat} {f0 : List Int} {f1 : List Int} {W1 : World} {row : Option Nat} (h : IsS26 w0 W g f0 f1) (hw : W.grownBy W1 row) (hne : some g ≠ row) : IsS26 w0 W1 g f0 f1 := by
 obtain ⟨A0, c0, A1, c1, hb, hg, hr0, hr1⟩ := h
 exact ⟨A0, c0, A1, c1, blk_grown hb hw hne, hg, hr0, hr1⟩
theorem IsS26.own_neN {w0 W : World} {g : Nat} {f0 : List Int} {f1 : List Int} {α : Type} {d : Kd α} {e : Nat} {base : Nat} {ok : Nat → Prop} {v : Value} {xs : List α} (h : IsS26 w0 W g f0 f1) (ho : Kd.N d e W base ok v xs) (ht : e ≠ 26) : some g ≠ v.ownBlock := by
 obtain ⟨A0, c0, A1, c1, hb, hg, hr0, hr1⟩ := h
 exact Kd.N_ne ho hb ht
theorem IsS26.fresh {w0 W : World} {g : Nat} {f0 : List Int} {f1 : List Int} (h : IsS26 w0 W g f0 f1) : ∀ k, W.heap.size ≤ k → k ≠ g := by
 obtain ⟨A0, c0, A1, c1, hb, hg, hr0, hr1⟩ := h
 exact Kd.freshB hb
theorem IsS26.kept {w0 W : World} {g : Nat} {f0 : List Int} {f1 : List Int} {W1 : World} {S : Nat → Prop} (h : IsS26 w0 W g f0 f1) (hk : Kept W W1 S) (hne : ¬ S g) : IsS26 w0 W1 g f0 f1 := by
 obtain ⟨A0, c0, A1, c1, hb, hg, hr0, hr1⟩ := h
 exact ⟨A0, c0, A1, c1, blk_kept hb hk hne, hg, hr0, hr1⟩
theorem IsS26.below {w0 W : World} {g : Nat} {f0 : List Int} {f1 : List Int} {W1 : World} (h : IsS26 w0 W g f0 f1) (hw : Below W.heap.size W W1) : IsS26 w0 W1 g f0 f1 := h.grown (grown_of_below hw none) (by simp)
theorem IsS26.alloc {w0 W : World} {g : Nat} {f0 : List Int} {f1 : List Int} (h : IsS26 w0 W g f0 f1) (o : Obj) : IsS26 w0 (W.alloc o) g f0 f1 := h.below (below_alloc (Below.refl _ _) o)
theorem IsS26.drewN {w0 W : World} {g : Nat} {f0 : List Int} {f1 : List Int} (h : IsS26 w0 W g f0 f1) (m : Nat) : IsS26 w0 (W.drewN m) g f0 f1 := h
theorem IsS26.drew {w0 W : World} {g : Nat} {f0 : List Int} {f1 : List Int} (h : IsS26 w0 W g f0 f1) : IsS26 w0 W.drew g f0 f1 := h
theorem IsS26.at_ {w0 W : World} {g : Nat} {f0 : List Int} {f1 : List Int} {w' : World} {m : Nat} (hq : W.drewN m = w') (h : IsS26 w0 W g f0 f1) : IsS26 w0 w' g f0 f1 := by subst hq; exact IsS26.drewN h m
theorem IsS26.apart {w0 W : World} {g : Nat} {f0 : List Int} {f1 : List Int} {α : Type} {d : Kd α} {e : Nat} {base : Nat} {ok : Nat → Prop} {v : Value} {xs : List α} (h : IsS26 w0 W g f0 f1) (ho : d.R e W base ok v xs) (ht : ∀ q, q ∈ e :: d.E → q ≠ 26) : d.R e W base (fun k => ok k ∧ k ≠ g) v xs := by
 obtain ⟨A0, c0, A1, c1, hb, hg, hr0, hr1⟩ := h
 exact Kd.R_types ho hb ht
theorem IsS26.own_ne {w0 W : World} {g : Nat} {f0 : List Int} {f1 : List Int} {α : Type} {d : Kd α} {e : Nat} {base : Nat} {ok : Nat → Prop} {v : Value} {xs : List α} (h : IsS26 w0 W g f0 f1) (ho : d.R e W base ok v xs) (ht : e ≠ 26) : some g ≠ v.ownBlock := by
 obtain ⟨A0, c0, A1, c1, hb, hg, hr0, hr1⟩ := h
 exact Kd.R_ne ho hb ht
theorem IsS26.apartQ {w0 W : World} {g : Nat} {f0 : List Int} {f1 : List Int} {α : Type} {d : Kd α} {e : Nat} {base : Nat} {ok : Nat → Prop} {v : Value} {xs : List α} (h : IsS26 w0 W g f0 f1) (ho : d.Q e W base ok v xs) (ht : ∀ q, q ∈ e :: d.E → q ≠ 26) : d.Q e W base (fun k => ok k ∧ k ≠ g) v xs := by
 obtain ⟨A0, c0, A1, c1, hb, hg, hr0, hr1⟩ := h
 exact Kd.Q_types ho hb ht
theorem IsS26.own_neQ {w0 W : World} {g : Nat} {f0 : List Int} {f1 : List Int} {α : Type} {d : Kd α} {e : Nat} {base : Nat} {ok : Nat → Prop} {v : Value} {xs : List α} (h : IsS26 w0 W g f0 f1) (ho : d.Q e W base ok v xs) (ht : e ≠ 26) : some g ≠ v.ownBlock := by
 obtain ⟨A0, c0, A1, c1, hb, hg, hr0, hr1⟩ := h
 exact Kd.Q_ne ho hb ht
theorem IsS26.apartS {w0 W : World} {g : Nat} {f0 : List Int} {f1 : List Int} {α : Type} {d : Kd α} {e : Nat} {base : Nat} {ok : Nat → Prop} {v : Value} {xs : List α} (h : IsS26 w0 W g f0 f1) (ho : d.S e W base ok v xs) (ht : ∀ q, q ∈ e :: d.E → q ≠ 26) : d.S e W base (fun k => ok k ∧ k ≠ g) v xs := by
 obtain ⟨A0, c0, A1, c1, hb, hg, hr0, hr1⟩ := h
 exact Kd.S_types ho hb ht
theorem IsS26.own_neS {w0 W : World} {g : Nat} {f0 : List Int} {f1 : List Int} {α : Type} {d : Kd α} {e : Nat} {base : Nat} {ok : Nat → Prop} {v : Value} {xs : List α} (h : IsS26 w0 W g f0 f1) (ho : d.S e W base ok v xs) (ht : e ≠ 26) : some g ≠ v.ownBlock := by
 obtain ⟨A0, c0, A1, c1, hb, hg, hr0, hr1⟩ := h
 exact Kd.S_ne ho hb ht
theorem IsS26.lt {w0 W : World} {g : Nat} {f0 : List Int} {f1 : List Int} (h : IsS26 w0 W g f0 f1) : g < W.heap.size := by
 obtain ⟨A0, c0, A1, c1, hb, hg, hr0, hr1⟩ := h
 exact blk_lt hb
theorem IsS26.ge {w0 W : World} {g : Nat} {f0 : List Int} {f1 : List Int} (h : IsS26 w0 W g f0 f1) : w0.heap.size ≤ g := by
 obtain ⟨A0, c0, A1, c1, hb, hg, hr0, hr1⟩ := h
 exact hg
theorem IsS26.ne_blk {w0 W : World} {g : Nat} {f0 : List Int} {f1 : List Int} {a : Nat} {cs : Array Value} {t : TypeId} {fr : Nat × Nat} (h : IsS26 w0 W g f0 f1) (hb2 : W.heap[a]? = some (.cells cs t fr)) (ht : t ≠ 26) : g ≠ a := by
 obtain ⟨A0, c0, A1, c1, hb, hg, hr0, hr1⟩ := h
 rintro rfl
 rw [hb] at hb2
 injection hb2 with hb2
 injection hb2 with _ ht2
 exact ht ht2.symm
theorem IsS26.far {w0 W : World} {g : Nat} {f0 : List Int} {f1 : List Int} {p : Addr} (h : IsS26 w0 W g f0 f1) (hne : g ≠ p.block) (u : Value) : IsS26 w0 (W.setCell p u) g f0 f1 := by
 obtain ⟨A0, c0, A1, c1, hb, hg, hr0, hr1⟩ := h
 exact ⟨A0, c0, A1, c1, blk_far hb hne u, hg, hr0, hr1⟩
theorem cellS26_0 {W : World} {g : Nat} {A0 : Option Addr} {c0 : Nat} {A1 : Option Addr} {c1 : Nat} {f0 : List Int} {f1 : List Int} (h : W.heap[g]? = some (.cells #[.slice A0 f0.length c0, .slice A1 f1.length c1] 26 (0, 0))) : W.cell? ⟨g, 0, none⟩ = some (.slice A0 f0.length c0) := (blk_cell h 0).trans rfl
theorem cellS26_1 {W : World} {g : Nat} {A0 : Option Addr} {c0 : Nat} {A1 : Option Addr} {c1 : Nat} {f0 : List Int} {f1 : List Int} (h : W.heap[g]? = some (.cells #[.slice A0 f0.length c0, .slice A1 f1.length c1] 26 (0, 0))) : W.cell? ⟨g, 1, none⟩ = some (.slice A1 f1.length c1) := (blk_cell h 1).trans rfl
theorem IsS26.new (w0 W : World) (A0 : Option Addr) (c0 : Nat) (A1 : Option Addr) (c1 : Nat) (f0 : List Int) (f1 : List Int) (hB : Below w0.heap.size w0 W) (hr0 : Kd.C (Kd.int .i64) w0 A0 f0.length f0) (hr1 : Kd.C (Kd.int .i64) w0 A1 f1.length f1) : IsS26 w0 (W.alloc (.cells #[.slice A0 f0.length c0, .slice A1 f1.length c1] 26)) W.heap.size f0 f1 := ⟨A0, c0, A1, c1, by simpa using heap_alloc_new W _, hB.size, hr0, hr1⟩

/-! ### impl_Word_letter: function 22 -/
def impl_Word_letter.f (s0_0 : List Int) (s0_1 : List Int) (a1 : Int) : Option (Int) := if a1 < (s0_0.length : Int) then (if 0 ≤ a1 then (some (rd s0_0 a1)) else (none)) else (if 0 ≤ (wrap64 (a1 - (s0_0.length : Int))) then (if (wrap64 (a1 - (s0_0.length : Int))) < (s0_1.length : Int) then (some (rd s0_1 (wrap64 (a1 - (s0_0.length : Int))))) else (none)) else (none))
open Go.Proofs.Ytiiioldjldghoaa.Short2 in
set_option maxHeartbeats 8000000 in
set_option maxRecDepth 100000 in
theorem impl_Word_letter.calls (g : Nat) (s0_0 : List Int) (s0_1 : List Int) (a1 : Int) (r : Int) (w0 w : World) (hI : IsS26 w0 w g s0_0 s0_1) (hB : Below w0.heap.size w0 w) (h : impl_Word_letter.f s0_0 s0_1 a1 = some r) :
  Calls Try.prog 22 #[.pointer (some ⟨g, 0, none⟩), .int .i64 a1] w fun e w' => e = .returned (.int .i64 r) ∧ IsS26 w0 w' g s0_0 s0_1 ∧ Below w0.heap.size w0 w' ∧ KeepBut w w' g none := by
 have HI0 := Aside0.mk hI; have HK := Aside0.mk (KeepBut.refl w g none); have HL := Aside0.mk hB.size; clear hI; have HW0 := Aside0.mk hB.size; have HB := Aside0.mk hB; clear hB; have H : (if a1 < (s0_0.length : Int) then (if 0 ≤ a1 then (some (rd s0_0 a1)) else (none)) else (if 0 ≤ (wrap64 (a1 - (s0_0.length : Int))) then (if (wrap64 (a1 - (s0_0.length : Int))) < (s0_1.length : Int) then (some (rd s0_1 (wrap64 (a1 - (s0_0.length : Int))))) else (none)) else (none))) = some r := h; clear h
 by_cases c3 : a1 < (s0_0.length : Int)
 ·rw [if_pos c3] at H; have ae : decide (a1 < (s0_0.length : Int)) = true := decide_eq_true c3; clear c3
  by_cases c4 : 0 ≤ a1
  ·rw [if_pos c4] at H; have aj : decide (0 ≤ a1) = true := decide_eq_true c4; clear c4; obtain rfl := Option.some.inj H; obtain ⟨ASz5_0, cSz5_0, ASz5_1, cSz5_1, HGz5, hgz5, HSz5_0, HSz5_1⟩ := HI0.out; have af := cellS26_0 HGz5; have ag := cellS26_1 HGz5; clear HGz5 hgz5; have ad : 0 ≤ (a1 : Int) := oD; have q447 : a1 < (s0_0.length : Int) := oD; obtain ⟨ad447, e447, aa⟩ := Kd.at_int HSz5_0 a1 ad q447
   cases e447
   replace aa := pw_cell_below HB.out aa; replace ad := eq_true ad; replace q447 := eq_true q447
   go_enter Try.func22, Try.ntmps22
   go_wp2
   repeat (go_quiet (fail); try go_wp2)
   go_ret; exact ⟨vw, by repeat (first | (with_reducible first | exact HI0.out | apply IsS26.alloc | apply IsS26.drewN | apply IsS26.drew) | exact HI0.out), by repeat (first | (with_reducible first | exact HB.out | apply below_alloc | apply pw_below_drewN | apply below_drew1 | refine below_set ?_ (IsS26.ge HI0.out)) | exact HB.out), by repeat (first | (with_reducible first | exact HK.out | apply KeepBut.set_ | apply keep_drewN | apply keep_drew | apply keep_alloc) | exact HK.out)⟩
  ·rw [if_neg c4] at H; exact absurd H (by simp)
 ·rw [if_neg c3] at H; have ae : decide (a1 < (s0_0.length : Int)) = false := decide_eq_false c3; clear c3; obtain ⟨ji6, hji6⟩ : ∃ j_ : Int, (wrap64 (a1 - (s0_0.length : Int))) = j_ := ⟨_, rfl⟩
  replace H : (if 0 ≤ (ji6) then (if (ji6) < (s0_1.length : Int) then (some (rd s0_1 (ji6))) else (none)) else (none)) = some r := by first | (rw [hji6] at H; exact H) | (simp only [hji6] at H ⊢; exact H)
  have hji6w : (IntKind.i64.wrap (a1 - (s0_0.length : Int))) = ji6 := (i64_w _).trans hji6
  by_cases c7 : 0 ≤ (ji6)
  ·rw [if_pos c7] at H; have ak : decide (0 ≤ (ji6)) = true := decide_eq_true c7; clear c7
   by_cases c8 : (ji6) < (s0_1.length : Int)
   ·rw [if_pos c8] at H; have al : decide ((ji6) < (s0_1.length : Int)) = true := decide_eq_true c8; clear c8; obtain rfl := Option.some.inj H; obtain ⟨ASz9_0, cSz9_0, ASz9_1, cSz9_1, HGz9, hgz9, HSz9_0, HSz9_1⟩ := HI0.out; have ah := cellS26_0 HGz9; have ai := cellS26_1 HGz9; clear HGz9 hgz9; have ac : 0 ≤ ((ji6) : Int) := oD; have q448 : (ji6) < (s0_1.length : Int) := oD; obtain ⟨ad448, e448, ab⟩ := Kd.at_int HSz9_1 (ji6) ac q448
    cases e448
    replace ab := pw_cell_below HB.out ab
    (try (obtain ⟨ad448zz5, e448zz5, hx448_0zz5⟩ := Kd.at_int HSz5_1 (ji6) ac q448; cases e448zz5; replace hx448_0zz5 := pw_cell_below HB.out hx448_0zz5))
    replace ac := eq_true ac; replace q448 := eq_true q448
    go_enter Try.func22, Try.ntmps22
    go_wp2
    repeat (go_quiet (fail); try go_wp2)
    go_ret; exact ⟨by first | rfl | (simp [errW_none, errW_some] <;> rfl) | (simp only [← hji6]; first | rfl | (simp [errW_none, errW_some] <;> rfl)) | (simp [*, errW_none, errW_some] <;> rfl), by repeat (first | (with_reducible first | exact HI0.out | apply IsS26.alloc | apply IsS26.drewN | apply IsS26.drew) | exact HI0.out), by repeat (first | (with_reducible first | exact HB.out | apply below_alloc | apply pw_below_drewN | apply below_drew1 | refine below_set ?_ (IsS26.ge HI0.out)) | exact HB.out), by repeat (first | (with_reducible first | exact HK.out | apply KeepBut.set_ | apply keep_drewN | apply keep_drew | apply keep_alloc) | exact HK.out)⟩
   ·rw [if_neg c8] at H; exact absurd H (by simp)
  ·rw [if_neg c7] at H; exact absurd H (by simp)


/-! ### impl_Word_placeOf: function 23 -/
def impl_Word_placeOf.f (s0_0 : List Int) (s0_1 : List Int) (a1 : Int) : Option (Int) := if a1 < (s0_0.length : Int) then (some a1) else (if (s0_1.length : Int) = 0 then (none) else (some (wrap64 ((s0_0.length : Int) + (Int.tmod (wrap64 (a1 - (s0_0.length : Int))) (s0_1.length : Int))))))
open Go.Proofs.Ytiiioldjldghoaa.Short2 in
set_option maxHeartbeats 8000000 in
set_option maxRecDepth 100000 in
theorem impl_Word_placeOf.calls (g : Nat) (s0_0 : List Int) (s0_1 : List Int) (a1 : Int) (r : Int) (w0 w : World) (hI : IsS26 w0 w g s0_0 s0_1) (hB : Below w0.heap.size w0 w) (h : impl_Word_placeOf.f s0_0 s0_1 a1 = some r) :
  Calls Try.prog 23 #[.pointer (some ⟨g, 0, none⟩), .int .i64 a1] w fun e w' => e = .returned (.int .i64 r) ∧ IsS26 w0 w' g s0_0 s0_1 ∧ Below w0.heap.size w0 w' ∧ KeepBut w w' g none := by
 have HI0 := Aside0.mk hI; have HK := Aside0.mk (KeepBut.refl w g none); have HL := Aside0.mk hB.size; clear hI; have HW0 := Aside0.mk hB.size; have HB := Aside0.mk hB; clear hB; have H : (if a1 < (s0_0.length : Int) then (some a1) else (if (s0_1.length : Int) = 0 then (none) else (some (wrap64 ((s0_0.length : Int) + (Int.tmod (wrap64 (a1 - (s0_0.length : Int))) (s0_1.length : Int))))))) = some r := h; clear h
 by_cases c3 : a1 < (s0_0.length : Int)
 ·rw [if_pos c3] at H; have aa : decide (a1 < (s0_0.length : Int)) = true := decide_eq_true c3; clear c3; obtain rfl := Option.some.inj H; obtain ⟨ASz4_0, cSz4_0, ASz4_1, cSz4_1, HGz4, hgz4, HSz4_0, HSz4_1⟩ := HI0.out; have ab := cellS26_0 HGz4; have ac := cellS26_1 HGz4; clear HGz4 hgz4
  go_enter Try.func23, Try.ntmps23
  go_wp2
  repeat (go_quiet (fail); try go_wp2)
  go_ret; exact ⟨vw, by repeat (first | (with_reducible first | exact HI0.out | apply IsS26.alloc | apply IsS26.drewN | apply IsS26.drew) | exact HI0.out), by repeat (first | (with_reducible first | exact HB.out | apply below_alloc | apply pw_below_drewN | apply below_drew1 | refine below_set ?_ (IsS26.ge HI0.out)) | exact HB.out), by repeat (first | (with_reducible first | exact HK.out | apply KeepBut.set_ | apply keep_drewN | apply keep_drew | apply keep_alloc) | exact HK.out)⟩
 ·rw [if_neg c3] at H; have aa : decide (a1 < (s0_0.length : Int)) = false := decide_eq_false c3; clear c3
  by_cases c5 : (s0_1.length : Int) = 0
  ·rw [if_pos c5] at H; exact absurd H (by simp)
  ·rw [if_neg c5] at H; have af : ((s0_1.length : Int) == 0) = false := beq_eq_false_iff_ne.mpr c5; have ag : ((s0_1.length : Int) != 0) = true := bne_iff_ne.mpr c5; have ah : ¬ (s0_1 = []) := fun h_ => c5 (by rw [h_]; rfl); obtain rfl := Option.some.inj H; obtain ⟨ASz6_0, cSz6_0, ASz6_1, cSz6_1, HGz6, hgz6, HSz6_0, HSz6_1⟩ := HI0.out; have ad := cellS26_0 HGz6; have ae := cellS26_1 HGz6; clear HGz6 hgz6
   go_enter Try.func23, Try.ntmps23
   go_wp2
   repeat (go_quiet (fail); try go_wp2)
   go_ret; exact ⟨vw, by repeat (first | (with_reducible first | exact HI0.out | apply IsS26.alloc | apply IsS26.drewN | apply IsS26.drew) | exact HI0.out), by repeat (first | (with_reducible first | exact HB.out | apply below_alloc | apply pw_below_drewN | apply below_drew1 | refine below_set ?_ (IsS26.ge HI0.out)) | exact HB.out), by repeat (first | (with_reducible first | exact HK.out | apply KeepBut.set_ | apply keep_drewN | apply keep_drew | apply keep_alloc) | exact HK.out)⟩


/-! ### impl_WordTake: function 9 -/
mutual
def impl_WordTake.j0 : Nat → Int → Bool → List Int → List Int → Option (List Int)
 | 0, _, _, _, _ => none
 | k + 1, x1, x14, x450000, x450001 => if x14 = true then (some ([] : List Int)) else (impl_WordTake.l0 k ([] : List Int) x1 0 x450000 x450001)
def impl_WordTake.l0 : Nat → List Int → Int → Int → List Int → List Int → Option (List Int)
 | 0, _, _, _, _, _ => none
 | k + 1, x5, x15, x16, x450000, x450001 => if x16 < x15 then ((impl_Word_placeOf.f x450000 x450001 x16).bind fun t452 => ((impl_Word_letter.f x450000 x450001 t452).bind fun t453 => (if x5.length < 17592186044416 then (impl_WordTake.l0 k (x5 ++ [t453]) x15 (wrap64 (x16 + 1)) x450000 x450001) else (none)))) else (some x5)
end
def impl_WordTake.f (k : Nat) (l0_0 : List Int) (l0_1 : List Int) (a1 : Int) : Option (List Int) := (impl_inRange.f a1 0 1000).bind fun t450 => (if t450 = true then ((impl_isRight.f k l0_0 l0_1).bind fun t451 => (impl_WordTake.j0 k a1 (!t451) l0_0 l0_1)) else (impl_WordTake.j0 k a1 true l0_0 l0_1))
theorem impl_WordTake.mono_l : ∀ k, (∀ y0 y1 y2 y3, LeO (impl_WordTake.j0 k y0 y1 y2 y3) (impl_WordTake.j0 (k + 1) y0 y1 y2 y3)) ∧ (∀ y0 y1 y2 y3 y4, LeO (impl_WordTake.l0 k y0 y1 y2 y3 y4) (impl_WordTake.l0 (k + 1) y0 y1 y2 y3 y4))
 | 0 => ⟨fun _ _ _ _ r h => by simp [impl_WordTake.j0] at h, fun _ _ _ _ _ r h => by simp [impl_WordTake.l0] at h⟩
 | k + 1 => by
  obtain ⟨ih0, ih1⟩ := impl_WordTake.mono_l k
  refine ⟨?_, ?_⟩
  ·intro y0 y1 y2 y3
   unfold impl_WordTake.j0
   repeat' first
   | (with_reducible exact ih0 _ _ _ _)
   | (with_reducible exact ih1 _ _ _ _ _)
   | (with_reducible exact impl_isRight.mono _ _ _)
   | (with_reducible exact LeO.refl _)
   | (with_reducible exact LeO.none _)
   | (with_reducible refine LeO.ite ?_ ?_)
   | (with_reducible refine LeO.bind ?_ (fun _ => ?_))
   | exact ih0 _ _ _ _
   | exact ih1 _ _ _ _ _
   | exact impl_isRight.mono _ _ _
   | exact LeO.none _
   | refine LeO.ite ?_ ?_
   | refine LeO.bind ?_ (fun _ => ?_)
  ·intro y0 y1 y2 y3 y4
   unfold impl_WordTake.l0
   repeat' first
   | (with_reducible exact ih0 _ _ _ _)
   | (with_reducible exact ih1 _ _ _ _ _)
   | (with_reducible exact impl_isRight.mono _ _ _)
   | (with_reducible exact LeO.refl _)
   | (with_reducible exact LeO.none _)
   | (with_reducible refine LeO.ite ?_ ?_)
   | (with_reducible refine LeO.bind ?_ (fun _ => ?_))
   | exact ih0 _ _ _ _
   | exact ih1 _ _ _ _ _
   | exact impl_isRight.mono _ _ _
   | exact LeO.none _
   | refine LeO.ite ?_ ?_
   | refine LeO.bind ?_ (fun _ => ?_)
theorem impl_WordTake.mono : ∀ a0 a1 a2 k, LeO (impl_WordTake.f k a0 a1 a2) (impl_WordTake.f (k + 1) a0 a1 a2) := by
 intro a0 a1 a2 k
 obtain ⟨ih0, ih1⟩ := impl_WordTake.mono_l k
 unfold impl_WordTake.f
 repeat' first
   | (with_reducible exact ih0 _ _ _ _)
   | (with_reducible exact ih1 _ _ _ _ _)
   | (with_reducible exact impl_isRight.mono _ _ _)
   | (with_reducible exact LeO.refl _)
   | (with_reducible exact LeO.none _)
   | (with_reducible refine LeO.ite ?_ ?_)
   | (with_reducible refine LeO.bind ?_ (fun _ => ?_))
   | exact ih0 _ _ _ _
   | exact ih1 _ _ _ _ _
   | exact impl_isRight.mono _ _ _
   | exact LeO.none _
   | refine LeO.ite ?_ ?_
   | refine LeO.bind ?_ (fun _ => ?_)
open Go.Proofs.Ytiiioldjldghoaa.Short2 in
set_option maxHeartbeats 8000000 in
set_option maxRecDepth 100000 in
theorem impl_WordTake.calls (k : Nat) (A0_0 : Option Addr) (c0_0 : Nat) (l0_0 : List Int) (A0_1 : Option Addr) (c0_1 : Nat) (l0_1 : List Int) (a1 : Int) (r : List Int) (w : World) (hr0_0 : Kd.C (Kd.int .i64) w A0_0 l0_0.length l0_0) (hc0_0 : l0_0.length ≤ c0_0) (hr0_1 : Kd.C (Kd.int .i64) w A0_1 l0_1.length l0_1) (hc0_1 : l0_1.length ≤ c0_1) (h : impl_WordTake.f k l0_0 l0_1 a1 = some r) :
  Calls Try.prog 9 #[.agg #[.slice A0_0 l0_0.length c0_0, .slice A0_1 l0_1.length c0_1], .int .i64 a1] w fun e w' => ∃ v0_ : Value, e = .returned (v0_) ∧ Kd.R (Kd.int .i64) 3 w' w.heap.size (fun _ => True) v0_ r ∧ Below w.heap.size w w' := by
 have hu26 := Try.underlying26; have HR0_0 := Aside0.mk hr0_0; have HC0_0 := Aside0.mk hc0_0; clear hr0_0 hc0_0; have HR0_1 := Aside0.mk hr0_1; have HC0_1 := Aside0.mk hc0_1; clear hr0_1 hc0_1; have HB := Aside0.mk (Below.refl w.heap.size w); have H : ((impl_inRange.f a1 0 1000).bind fun am => (if am = true then ((impl_isRight.f k l0_0 l0_1).bind fun ae => (impl_WordTake.j0 k a1 (!ae) l0_0 l0_1)) else (impl_WordTake.j0 k a1 true l0_0 l0_1))) = some r := h; clear h; have HC3 := Aside0.mk H; clear H
 go_enter Try.func9, Try.ntmps9
 go_upto_region 1 with (first | ((with_reducible refine gate_dst (N := 2) rfl ?_); refine bx_ 2 #[.slice A0_0 l0_0.length c0_0, .slice A0_1 l0_1.length c0_1] 26 ?_; intro ab hg w4 hbox hb; have ac := Aside0.mk (hbox); have az := xG HB hg; have aM := xG HB hg; replace HB := xS HB hb; clear hb hbox hg))
 (try simp only [Act.put, q3])
 go_cut [14] (fun aH wc => ∃ (kq : Nat) (ak : Bool), aH = .bool ak ∧ Aside0 (impl_WordTake.j0 kq a1 ak l0_0 l0_1 = some r) ∧ Aside0 (kq ≤ k) ∧ Aside0 (wc.heap[ab]? = some (.cells #[(.slice A0_0 l0_0.length c0_0), (.slice A0_1 l0_1.length c0_1)] 26 (0, 0))) ∧ Aside0 (Below w.heap.size w wc))
 case first =>
  have H := HC3.out; clear HC3; replace H := bI H; obtain ⟨am, aE, H⟩ := H; replace H : (if am = true then ((impl_isRight.f k l0_0 l0_1).bind fun ae => (impl_WordTake.j0 k a1 (!ae) l0_0 l0_1)) else (impl_WordTake.j0 k a1 true l0_0 l0_1)) = some r := H; have A5 := Aside0.mk aE; clear aE
  by_cases c6 : am = true
  ·subst c6
   have H1 : ((impl_isRight.f k l0_0 l0_1).bind fun ae => (impl_WordTake.j0 k a1 (!ae) l0_0 l0_1)) = some r := by rw [if_pos rfl] at H; exact H
   clear H; have H := H1; clear H1; replace H := bI H; obtain ⟨ae, aG, H⟩ := H; replace H : (impl_WordTake.j0 k a1 (!ae) l0_0 l0_1) = some r := H; have A7 := Aside0.mk aG; clear aG; have H' := Aside0.mk H; clear H
   go_wp2_with (first | ((with_reducible refine gate_callee (f := 21) rfl ?_); refine gl_ (some 8) Try.func21 #[.int .i64 a1, .int .i64 0, .int .i64 1000] ?_; (with_reducible refine (impl_inRange.calls a1 0 1000 true _ A5.out).mono ?_); rintro e w' ⟨rfl, ⟨nd, rfl⟩⟩; refine ⟨_, rfl, ?_⟩; obtain ⟨ao, ap, aq, ar⟩ := cz2 ac) | (go_at_call 17; (with_reducible refine (impl_isRight.calls k _ _ l0_0 _ _ l0_1 ae _ ?side1 ?side2 ?side3 ?side4 A7.out).mono ?_); (case side1 => repeat (first | exact (Kd.C_below HR0_0.out (zS HB.out)) | (with_reducible refine Kd.C_alloc ?_ _) | (with_reducible refine Kd.C_drewN ?_ _) | (with_reducible refine Kd.C_drew ?_))); (case side2 => exact HC0_0.out); (case side3 => repeat (first | exact (Kd.C_below HR0_1.out (zS HB.out)) | (with_reducible refine Kd.C_alloc ?_ _) | (with_reducible refine Kd.C_drewN ?_ _) | (with_reducible refine Kd.C_drew ?_))); (case side4 => exact HC0_1.out); rintro e w9 ⟨rfl, hb⟩; replace ac := xB ac hb; replace HB := xS HB hb; (try clear hb); (try clear hb2); (try clear hk); (try clear hi)))
   go_meet
   case rel => exact ⟨_, (!ae), vv, H', ⟨by first | omega | exact Nat.le_refl _⟩, ⟨zB ac.out⟩, ⟨zS HB.out⟩⟩
  ·replace c6 := Bool.eq_false_iff.mpr c6; subst c6
   have H1 : (impl_WordTake.j0 k a1 true l0_0 l0_1) = some r := by rw [if_neg (show ¬ (false = true) by decide)] at H; exact H
   clear H; have H := H1; clear H1; have H' := Aside0.mk H; clear H
   go_wp2_with (first | ((with_reducible refine gate_callee (f := 21) rfl ?_); refine gl_ (some 8) Try.func21 #[.int .i64 a1, .int .i64 0, .int .i64 1000] ?_; (with_reducible refine (impl_inRange.calls a1 0 1000 false _ A5.out).mono ?_); rintro e w' ⟨rfl, ⟨nd, rfl⟩⟩; refine ⟨_, rfl, ?_⟩))
   go_meet
   case rel => exact ⟨_, (true), vv, H', ⟨by first | omega | exact Nat.le_refl _⟩, ⟨zB ac.out⟩, ⟨zS HB.out⟩⟩
 case rest =>
  clear HC3
  try clear c2
  try clear p2
  try clear c6
  try clear c9
  try clear ao ap aq ar
  obtain ⟨kq, ak, rfl, HA, HJ2, ac, HB⟩ := hcut
  cases kq with
  | zero => exact absurd HA.out (by simp [impl_WordTake.j0])
  | succ kj2 =>
   have H := HA.out; clear HA; simp only [impl_WordTake.j0] at H
   by_cases au : ak = true
   ·subst au
    have H1 : (some ([] : List Int)) = some r := by rw [if_pos rfl] at H; exact H
    clear H; have H := H1; clear H1; obtain rfl := Option.some.inj H
    go_wp2
    go_ret; exact ⟨_, vw, by first | exact Kd.R_nil _ _ _ _ _ | exact Kd.N_nil _ _ _ _ _ | exact Kd.V_nil _ _ _ _ _ | exact Kd.Q_nil _ _ _ _ _ | exact Kd.S_nil _ _ _ _ _, zS HB.out⟩
   ·replace au := Bool.eq_false_iff.mpr au; subst au
    have H1 : (impl_WordTake.l0 kj2 ([] : List Int) a1 0 l0_0 l0_1) = some r := by rw [if_neg (show ¬ (false = true) by decide)] at H; exact H
    clear H; have H := H1; clear H1; have H' := Aside0.mk H; clear H; have HI449 := Aside0.mk (show IsS26 w wc ab l0_0 l0_1 from ⟨A0_0, c0_0, A0_1, c0_1, ac.out, az.out, HR0_0.out, HR0_1.out⟩); clear ac
    go_wp2
    go_loopg [5, 16] kj2 (fun kq v5 aI w' => ∃ (x5_2 : List Int) (aa : Int), aI = .int .i64 aa ∧ Aside0 (impl_WordTake.l0 kq x5_2 a1 aa l0_0 l0_1 = some r) ∧ Aside0 (kq ≤ kj2) ∧ Aside0 (Kd.R (Kd.int .i64) 3 w' w.heap.size (fun _ => True) v5 x5_2) ∧ Aside0 (IsS26 w w' ab l0_0 l0_1) ∧ Aside0 (Below w.heap.size w w'))
    case atStart => exact ⟨(([] : List Int)), (0), vv, H', ⟨Nat.le_refl _⟩, ⟨by first | exact Kd.R_nil _ _ _ _ _ | exact Kd.N_nil _ _ _ _ _ | exact Kd.V_nil _ _ _ _ _ | exact Kd.Q_nil _ _ _ _ _ | exact Kd.S_nil _ _ _ _ _⟩, ⟨by repeat (first | (with_reducible first | exact HI449.out | apply IsS26.alloc | apply IsS26.drewN | apply IsS26.drew) | exact HI449.out)⟩, ⟨by repeat (first | (with_reducible first | exact HB.out | apply below_alloc | apply pw_below_drewN | apply below_drew1 | refine below_set ?_ (IsS26.ge HI449.out)) | exact HB.out)⟩⟩
    case round =>
     clear H'
     try clear c1
     try clear c2
     try clear p2
     try clear c6
     try clear c9
     try clear au
     try clear ao ap aq ar
     try clear p2
     obtain ⟨x5_2, aa, rfl, HA, HK2, ad, HI449, HB⟩ := hrel
     cases gk with
     | zero => exact absurd HA.out (by simp [impl_WordTake.l0])
     | succ k2 =>
      have H := HA.out; clear HA; simp only [impl_WordTake.l0] at H
      by_cases al : aa < a1
      ·rw [if_pos al] at H; have aA : decide (aa < a1) = true := decide_eq_true al; clear al; replace H := bI H; obtain ⟨an, aw, H⟩ := H; replace H : ((impl_Word_letter.f l0_0 l0_1 an).bind fun af => (if x5_2.length < 17592186044416 then (impl_WordTake.l0 k2 (x5_2 ++ [af]) a1 (wrap64 (aa + 1)) l0_0 l0_1) else (none))) = some r := H; have aJ := Aside0.mk aw; clear aw; replace H := bI H; obtain ⟨af, ax, H⟩ := H; replace H : (if x5_2.length < 17592186044416 then (impl_WordTake.l0 k2 (x5_2 ++ [af]) a1 (wrap64 (aa + 1)) l0_0 l0_1) else (none)) = some r := H; have aK := Aside0.mk ax; clear ax
       by_cases av : x5_2.length < 17592186044416
       ·rw [if_pos av] at H; have LMc14 := Aside0.mk av; clear av; obtain ⟨ay, ag⟩ : ∃ y_ : List Int, y_ = (x5_2 ++ [af]) := ⟨_, rfl⟩
        replace H : (impl_WordTake.l0 k2 ay a1 (wrap64 (aa + 1)) l0_0 l0_1) = some r := by first | (rw [ag]; with_reducible exact H) | (have H2_ := (Option.bind_some _ _).symm.trans H; rw [ag]; with_reducible exact H2_) | (have H2_ := (Option.bind_some _ _).symm.trans H; with_reducible exact H2_) | with_reducible exact H | (rw [ag]; exact H) | exact H
        have aC := Aside0.mk ag; clear ag; have H' := Aside0.mk H; clear H
        go_wp2_with (first | ((with_reducible refine gate_callee (f := 23) rfl ?_); refine gl_ (some 21) Try.func23 #[.pointer (some ⟨ab, 0, none⟩), .int .i64 aa] ?_; (with_reducible refine (impl_Word_placeOf.calls ab l0_0 l0_1 aa an w _ ?side1 ?side2 aJ.out).mono ?_); (case side1 => repeat (first | (with_reducible first | exact HI449.out | apply IsS26.alloc | apply IsS26.drewN | apply IsS26.drew) | exact HI449.out)); (case side2 => repeat (first | (with_reducible first | exact HB.out | apply below_alloc | apply pw_below_drewN | apply below_drew1 | refine below_set ?_ (IsS26.ge HI449.out)) | exact HB.out)); rintro e aQ ⟨rfl, hi, hb, hk⟩; refine ⟨_, rfl, ?_⟩; have ah := Aside0.mk (Kd.R_mono (Kd.R_keep (IsS26.apart (show IsS26 w _ ab l0_0 l0_1 from by repeat (first | (with_reducible first | exact HI449.out | apply IsS26.alloc | apply IsS26.drewN | apply IsS26.drew) | exact HI449.out)) (zR ad.out) (by decide)) hk (fun _ h => h.2)) (fun _ h => h.1)); have ai := Aside0.mk (hb); have aj := Aside0.mk (hi); clear ad; clear HB; clear HI449; have ad := ah; have HB := ai; have HI449 := aj; clear ah ai aj; (try clear hb); (try clear hb2); (try clear hk); (try clear hi)) | ((with_reducible refine gate_callee (f := 22) rfl ?_); refine gl_ (some 22) Try.func22 #[.pointer (some ⟨ab, 0, none⟩), .int .i64 an] ?_; (with_reducible refine (impl_Word_letter.calls ab l0_0 l0_1 an af w _ ?side1 ?side2 aK.out).mono ?_); (case side1 => repeat (first | (with_reducible first | exact HI449.out | apply IsS26.alloc | apply IsS26.drewN | apply IsS26.drew) | exact HI449.out)); (case side2 => repeat (first | (with_reducible first | exact HB.out | apply below_alloc | apply pw_below_drewN | apply below_drew1 | refine below_set ?_ (IsS26.ge HI449.out)) | exact HB.out)); rintro e aR ⟨rfl, hi, hb, hk⟩; refine ⟨_, rfl, ?_⟩; have ah := Aside0.mk (Kd.R_mono (Kd.R_keep (IsS26.apart (show IsS26 w _ ab l0_0 l0_1 from by repeat (first | (with_reducible first | exact HI449.out | apply IsS26.alloc | apply IsS26.drewN | apply IsS26.drew) | exact HI449.out)) (zR ad.out) (by decide)) hk (fun _ h => h.2)) (fun _ h => h.1)); have ai := Aside0.mk (hb); have aj := Aside0.mk (hi); clear ad; clear HB; clear HI449; have ad := ah; have HB := ai; have HI449 := aj; clear ah ai aj; (try clear hb); (try clear hb2); (try clear hk); (try clear hi)) | ((with_reducible refine gate_builtin (b := .append) (xs := #[.tmp 19, .tmp 23]) rfl ?_); at_builtin; refine Kd.R_append (Kd.int .i64) (w0 := w) w.heap.size rfl (.tmp 19) (.tmp 23) 24 3 (.int .i64 0) 8 rfl Try.underlying24 info3 rfl (by decide) (by omega) u5 x5_2 af [.int .i64 af] (fun _ => True) (fun _ => False) rfl rfl ?aP (fun _ hk => hk.elim) ?aF ?aO ?aB ?aS ?aL ?_; (case aP => exact rfl); (case aB => exact (by repeat (first | (with_reducible first | exact HB.out | apply below_alloc | apply pw_below_drewN | apply below_drew1 | refine below_set ?_ (IsS26.ge HI449.out)) | exact HB.out))); (case aF => exact (fun _ _ => trivial)); (case aO => exact (zR ad.out)); (case aS => exact (below_size (by repeat (first | (with_reducible first | exact HB.out | apply below_alloc | apply pw_below_drewN | apply below_drew1 | refine below_set ?_ (IsS26.ge HI449.out)) | exact HB.out)))); (case aL => have := LMc14.out; omega); intro aN aT ho hb hg hat; rw [← aC.out] at ho; have ah := Aside0.mk (IsS26.grown (by repeat (first | (with_reducible first | exact HI449.out | apply IsS26.alloc | apply IsS26.drewN | apply IsS26.drew) | exact HI449.out)) hg (IsS26.own_ne HI449.out ad.out (by decide))); have ai := Aside0.mk (hb); have aj := Aside0.mk (ho); clear HI449; clear HB; clear ad; have HI449 := ah; have HB := ai; have aD := aj; clear ah ai aj; clear ho hb hg hat))
        go_roundg k2
        case measure => have := HJ2.out; have := HK2.out; omega
        case rel => exact ⟨(ay), (wrap64 (aa + 1)), vv, H', ⟨by have := HJ2.out; have := HK2.out; omega⟩, ⟨zR aD.out⟩, ⟨by repeat (first | (with_reducible first | exact HI449.out | apply IsS26.alloc | apply IsS26.drewN | apply IsS26.drew) | exact HI449.out)⟩, ⟨by repeat (first | (with_reducible first | exact HB.out | apply below_alloc | apply pw_below_drewN | apply below_drew1 | refine below_set ?_ (IsS26.ge HI449.out)) | exact HB.out)⟩⟩
       ·rw [if_neg av] at H; exact absurd H (by simp)
      ·rw [if_neg al] at H; have aA : decide (aa < a1) = false := decide_eq_false al; clear al; obtain rfl := Option.some.inj H
       go_wp2
       go_ret; exact ⟨_, vw, by (with_reducible repeat (first | apply Kd.R_alloc | apply Kd.R_drewN | apply Kd.R_drew)); exact ad.out, by repeat (first | (with_reducible first | exact HB.out | apply below_alloc | apply pw_below_drewN | apply below_drew1 | refine below_set ?_ (IsS26.ge HI449.out)) | exact HB.out)⟩

end Go.Proofs.Ytiiioldjldghoaa.MFnSame3
