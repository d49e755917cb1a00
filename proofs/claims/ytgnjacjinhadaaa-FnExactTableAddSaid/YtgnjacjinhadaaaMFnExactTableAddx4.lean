-- Written by a program of this session, out of Lean's print of the translation. Not trusted: Lean checks it.
import Derived.Test.YtgnjacjinhadaaaMFnExactTableAddx0
import Derived.Test.YtgnjacjinhadaaaMFnExactTableAddx1
import Derived.Test.YtgnjacjinhadaaaMFnExactTableAddx2
import Derived.Test.YtgnjacjinhadaaaMFnExactTableAddx3
namespace Go.Proofs.Ytgnjacjinhadaaa.MFnExactTableAdd
open Go.RowKit Go.Proofs.YtgnjacjinhadaaaW.PrintWords Go.Proofs.YtgnjacjinhadaaaW.PrintLast Go.Proofs.YtgnjacjinhadaaaW.PrintMore
attribute [local go_sem] max2_int min2_int max_two min_two max_three min_three max_four min_four   -- for this text's walks alone
set_option linter.unusedVariables false
set_option linter.unusedSimpArgs false

/-! ### laws_FnExactTableAdd: function 9 -/
mutual
def laws_FnExactTableAdd.j0 : Nat → Int → Int → Bool → Int → Bool → Bool → List Int → List Int → List Int → List Int → Option (Bool)
  | 0, _, _, _, _, _, _, _, _, _, _ => none
  | k + 1, x1, x7, x8, x11, x12, x54, x159000, x169000, x173000, x179000 => if x54 = true then (some false) else ((laws_toTable.f k x159000).bind fun t180 => ((laws_eqTable.f k x173000 t180).bind fun t183 => (if t183 = true then ((laws_markTable.f k x173000 1).bind fun bt184 => (if bt184.1 < 0 then (laws_FnExactTableAdd.j1 k x1 x7 x8 true x159000 x169000 x179000) else ((laws_eqTable.f k x179000 x169000).bind fun t186 => (if t186 = true then (if x11 = x7 then (laws_FnExactTableAdd.j1 k x1 x7 x8 (x12 != x8) x159000 x169000 x179000) else (laws_FnExactTableAdd.j1 k x1 x7 x8 true x159000 x169000 x179000)) else (laws_FnExactTableAdd.j1 k x1 x7 x8 true x159000 x169000 x179000))))) else (some false))))
def laws_FnExactTableAdd.j1 : Nat → Int → Int → Bool → Bool → List Int → List Int → List Int → Option (Bool)
  | 0, _, _, _, _, _, _, _ => none
  | k + 1, x1, x7, x8, x80, x159000, x169000, x179000 => if x80 = true then (some false) else ((laws_markTable.f k x179000 1).bind fun bt187 => ((laws_heldTable.f k bt187.2 1).bind fun t189 => (if t189 < 0 then (some false) else (if t189 = bt187.1 then ((laws_toTable.f k x159000).bind fun t190 => ((impl_TableAdd.f k t190 x1).bind fun bt193 => ((laws_eqTable.f k bt193.1 x169000).bind fun t199 => (if t199 = true then (if bt193.2.1 = x7 then (laws_FnExactTableAdd.j2 k bt187.1 (bt193.2.2 != x8) bt187.2) else (laws_FnExactTableAdd.j2 k bt187.1 true bt187.2)) else (laws_FnExactTableAdd.j2 k bt187.1 true bt187.2))))) else (some false)))))
def laws_FnExactTableAdd.j2 : Nat → Int → Bool → List Int → Option (Bool)
  | 0, _, _, _ => none
  | k + 1, x14, x113, x179000 => if x113 = true then (some false) else ((laws_heldTable.f k x179000 1).bind fun t200 => (if t200 < 0 then (some false) else (if t200 = x14 then (some true) else (some false))))
end
def laws_FnExactTableAdd.f (k : Nat) (l0_0 : List Int) (a1 : Int) : Option (Bool) := (laws_szTable.f l0_0 1048576).bind fun t159 => (if t159 < 0 then (some true) else ((laws_toTable.f k l0_0).bind fun t160 => ((spec_TableAdd.f k t160 a1).bind fun bt163 => ((laws_toTable.f k l0_0).bind fun t169 => ((impl_TableAdd.f k t169 a1).bind fun bt173 => ((laws_eqTable.f k bt173.1 bt163.1).bind fun t179 => (if t179 = true then (if bt173.2.1 = bt163.2.1 then (laws_FnExactTableAdd.j0 k a1 bt163.2.1 bt163.2.2 bt173.2.1 bt173.2.2 (bt173.2.2 != bt163.2.2) l0_0 bt163.1 t169 bt173.1) else (laws_FnExactTableAdd.j0 k a1 bt163.2.1 bt163.2.2 bt173.2.1 bt173.2.2 true l0_0 bt163.1 t169 bt173.1)) else (laws_FnExactTableAdd.j0 k a1 bt163.2.1 bt163.2.2 bt173.2.1 bt173.2.2 true l0_0 bt163.1 t169 bt173.1))))))))
theorem laws_FnExactTableAdd.mono_l : ∀ k, (∀ y0 y1 y2 y3 y4 y5 y6 y7 y8 y9, LeO (laws_FnExactTableAdd.j0 k y0 y1 y2 y3 y4 y5 y6 y7 y8 y9) (laws_FnExactTableAdd.j0 (k + 1) y0 y1 y2 y3 y4 y5 y6 y7 y8 y9)) ∧ (∀ y0 y1 y2 y3 y4 y5 y6, LeO (laws_FnExactTableAdd.j1 k y0 y1 y2 y3 y4 y5 y6) (laws_FnExactTableAdd.j1 (k + 1) y0 y1 y2 y3 y4 y5 y6)) ∧ (∀ y0 y1 y2, LeO (laws_FnExactTableAdd.j2 k y0 y1 y2) (laws_FnExactTableAdd.j2 (k + 1) y0 y1 y2))
  | 0 => ⟨fun _ _ _ _ _ _ _ _ _ _ r h => by simp [laws_FnExactTableAdd.j0] at h, fun _ _ _ _ _ _ _ r h => by simp [laws_FnExactTableAdd.j1] at h, fun _ _ _ r h => by simp [laws_FnExactTableAdd.j2] at h⟩
  | k + 1 => by
    obtain ⟨ih0, ih1, ih2⟩ := laws_FnExactTableAdd.mono_l k
    refine ⟨?_, ?_, ?_⟩
    · intro y0 y1 y2 y3 y4 y5 y6 y7 y8 y9
      unfold laws_FnExactTableAdd.j0
      repeat' first
      | (with_reducible exact ih0 _ _ _ _ _ _ _ _ _ _)
      | (with_reducible exact ih1 _ _ _ _ _ _ _)
      | (with_reducible exact ih2 _ _ _)
      | (with_reducible exact impl_TableAdd.mono _ _ _)
      | (with_reducible exact laws_eqTable.mono _ _ _)
      | (with_reducible exact laws_heldTable.mono _ _ _)
      | (with_reducible exact laws_markTable.mono _ _ _)
      | (with_reducible exact laws_toTable.mono _ _)
      | (with_reducible exact spec_TableAdd.mono _ _ _)
      | (with_reducible exact LeO.refl _)
      | (with_reducible exact LeO.none _)
      | (with_reducible refine LeO.ite ?_ ?_)
      | (with_reducible refine LeO.bind ?_ (fun _ => ?_))
      | exact ih0 _ _ _ _ _ _ _ _ _ _
      | exact ih1 _ _ _ _ _ _ _
      | exact ih2 _ _ _
      | exact impl_TableAdd.mono _ _ _
      | exact laws_eqTable.mono _ _ _
      | exact laws_heldTable.mono _ _ _
      | exact laws_markTable.mono _ _ _
      | exact laws_toTable.mono _ _
      | exact spec_TableAdd.mono _ _ _
      | exact LeO.none _
      | refine LeO.ite ?_ ?_
      | refine LeO.bind ?_ (fun _ => ?_)
    · intro y0 y1 y2 y3 y4 y5 y6
      unfold laws_FnExactTableAdd.j1
      repeat' first
      | (with_reducible exact ih0 _ _ _ _ _ _ _ _ _ _)
      | (with_reducible exact ih1 _ _ _ _ _ _ _)
      | (with_reducible exact ih2 _ _ _)
      | (with_reducible exact impl_TableAdd.mono _ _ _)
      | (with_reducible exact laws_eqTable.mono _ _ _)
      | (with_reducible exact laws_heldTable.mono _ _ _)
      | (with_reducible exact laws_markTable.mono _ _ _)
      | (with_reducible exact laws_toTable.mono _ _)
      | (with_reducible exact spec_TableAdd.mono _ _ _)
      | (with_reducible exact LeO.refl _)
      | (with_reducible exact LeO.none _)
      | (with_reducible refine LeO.ite ?_ ?_)
      | (with_reducible refine LeO.bind ?_ (fun _ => ?_))
      | exact ih0 _ _ _ _ _ _ _ _ _ _
      | exact ih1 _ _ _ _ _ _ _
      | exact ih2 _ _ _
      | exact impl_TableAdd.mono _ _ _
      | exact laws_eqTable.mono _ _ _
      | exact laws_heldTable.mono _ _ _
      | exact laws_markTable.mono _ _ _
      | exact laws_toTable.mono _ _
      | exact spec_TableAdd.mono _ _ _
      | exact LeO.none _
      | refine LeO.ite ?_ ?_
      | refine LeO.bind ?_ (fun _ => ?_)
    · intro y0 y1 y2
      unfold laws_FnExactTableAdd.j2
      repeat' first
      | (with_reducible exact ih0 _ _ _ _ _ _ _ _ _ _)
      | (with_reducible exact ih1 _ _ _ _ _ _ _)
      | (with_reducible exact ih2 _ _ _)
      | (with_reducible exact impl_TableAdd.mono _ _ _)
      | (with_reducible exact laws_eqTable.mono _ _ _)
      | (with_reducible exact laws_heldTable.mono _ _ _)
      | (with_reducible exact laws_markTable.mono _ _ _)
      | (with_reducible exact laws_toTable.mono _ _)
      | (with_reducible exact spec_TableAdd.mono _ _ _)
      | (with_reducible exact LeO.refl _)
      | (with_reducible exact LeO.none _)
      | (with_reducible refine LeO.ite ?_ ?_)
      | (with_reducible refine LeO.bind ?_ (fun _ => ?_))
      | exact ih0 _ _ _ _ _ _ _ _ _ _
      | exact ih1 _ _ _ _ _ _ _
      | exact ih2 _ _ _
      | exact impl_TableAdd.mono _ _ _
      | exact laws_eqTable.mono _ _ _
      | exact laws_heldTable.mono _ _ _
      | exact laws_markTable.mono _ _ _
      | exact laws_toTable.mono _ _
      | exact spec_TableAdd.mono _ _ _
      | exact LeO.none _
      | refine LeO.ite ?_ ?_
      | refine LeO.bind ?_ (fun _ => ?_)
theorem laws_FnExactTableAdd.mono : ∀ a0 a1 k, LeO (laws_FnExactTableAdd.f k a0 a1) (laws_FnExactTableAdd.f (k + 1) a0 a1) := by
  intro a0 a1 k
  obtain ⟨ih0, ih1, ih2⟩ := laws_FnExactTableAdd.mono_l k
  unfold laws_FnExactTableAdd.f
  repeat' first
      | (with_reducible exact ih0 _ _ _ _ _ _ _ _ _ _)
      | (with_reducible exact ih1 _ _ _ _ _ _ _)
      | (with_reducible exact ih2 _ _ _)
      | (with_reducible exact impl_TableAdd.mono _ _ _)
      | (with_reducible exact laws_eqTable.mono _ _ _)
      | (with_reducible exact laws_heldTable.mono _ _ _)
      | (with_reducible exact laws_markTable.mono _ _ _)
      | (with_reducible exact laws_toTable.mono _ _)
      | (with_reducible exact spec_TableAdd.mono _ _ _)
      | (with_reducible exact LeO.refl _)
      | (with_reducible exact LeO.none _)
      | (with_reducible refine LeO.ite ?_ ?_)
      | (with_reducible refine LeO.bind ?_ (fun _ => ?_))
      | exact ih0 _ _ _ _ _ _ _ _ _ _
      | exact ih1 _ _ _ _ _ _ _
      | exact ih2 _ _ _
      | exact impl_TableAdd.mono _ _ _
      | exact laws_eqTable.mono _ _ _
      | exact laws_heldTable.mono _ _ _
      | exact laws_markTable.mono _ _ _
      | exact laws_toTable.mono _ _
      | exact spec_TableAdd.mono _ _ _
      | exact LeO.none _
      | refine LeO.ite ?_ ?_
      | refine LeO.bind ?_ (fun _ => ?_)
set_option maxHeartbeats 8000000 in
set_option maxRecDepth 100000 in
theorem laws_FnExactTableAdd.calls (k : Nat) (A0_0 : Option Addr) (c0_0 : Nat) (l0_0 : List Int) (a1 : Int) (r : Bool) (w : World) (hr0_0 : Kd.C (Kd.int .i64) w A0_0 l0_0.length l0_0) (hc0_0 : l0_0.length ≤ c0_0) (h : laws_FnExactTableAdd.f k l0_0 a1 = some r) :
    Calls Try.prog 9 #[.agg #[.slice A0_0 l0_0.length c0_0], .int .i64 a1] w fun e w' => e = .returned (.bool r) ∧ Below w.heap.size w w' := by
  have hu33 := Try.underlying33
  have hu36 := Try.underlying36
  have HR0_0 := Aside0.mk hr0_0
  have HC0_0 := Aside0.mk hc0_0
  clear hr0_0 hc0_0
  have HB := Aside0.mk (Below.refl w.heap.size w)
  have H : ((laws_szTable.f l0_0 1048576).bind fun t159 => (if t159 < 0 then (some true) else ((laws_toTable.f k l0_0).bind fun t160 => ((spec_TableAdd.f k t160 a1).bind fun bt163 => ((laws_toTable.f k l0_0).bind fun t169 => ((impl_TableAdd.f k t169 a1).bind fun bt173 => ((laws_eqTable.f k bt173.1 bt163.1).bind fun t179 => (if t179 = true then (if bt173.2.1 = bt163.2.1 then (laws_FnExactTableAdd.j0 k a1 bt163.2.1 bt163.2.2 bt173.2.1 bt173.2.2 (bt173.2.2 != bt163.2.2) l0_0 bt163.1 t169 bt173.1) else (laws_FnExactTableAdd.j0 k a1 bt163.2.1 bt163.2.2 bt173.2.1 bt173.2.2 true l0_0 bt163.1 t169 bt173.1)) else (laws_FnExactTableAdd.j0 k a1 bt163.2.1 bt163.2.2 bt173.2.1 bt173.2.2 true l0_0 bt163.1 t169 bt173.1))))))))) = some r := h
  clear h
  replace H := Option.bind_eq_some_iff.mp H
  obtain ⟨t159, A30, H⟩ := H
  replace H : (if t159 < 0 then (some true) else ((laws_toTable.f k l0_0).bind fun t160 => ((spec_TableAdd.f k t160 a1).bind fun bt163 => ((laws_toTable.f k l0_0).bind fun t169 => ((impl_TableAdd.f k t169 a1).bind fun bt173 => ((laws_eqTable.f k bt173.1 bt163.1).bind fun t179 => (if t179 = true then (if bt173.2.1 = bt163.2.1 then (laws_FnExactTableAdd.j0 k a1 bt163.2.1 bt163.2.2 bt173.2.1 bt173.2.2 (bt173.2.2 != bt163.2.2) l0_0 bt163.1 t169 bt173.1) else (laws_FnExactTableAdd.j0 k a1 bt163.2.1 bt163.2.2 bt173.2.1 bt173.2.2 true l0_0 bt163.1 t169 bt173.1)) else (laws_FnExactTableAdd.j0 k a1 bt163.2.1 bt163.2.2 bt173.2.1 bt173.2.2 true l0_0 bt163.1 t169 bt173.1)))))))) = some r := H
  have A3 := Aside0.mk A30
  clear A30
  by_cases c4 : t159 < 0
  · rw [if_pos c4] at H
    have c4b0 : decide (t159 < 0) = true := decide_eq_true c4
    clear c4
    obtain rfl := Option.some.inj H
    go_enter Try.func9, Try.ntmps9
    go_wp2_with (first | ((with_reducible refine gate_dst (N := 2) rfl ?_); refine box_event ?hg (N := 2) ?hd (cs := #[.slice A0_0 l0_0.length c0_0]) (t := 33) ?hr ?_; (case hd => rfl); (case hg => rfl); (case hr => first | (go_simp; done) | (go_simp; rfl)); intro gb158 hg w5 hbox hb; have n0_ := Aside0.mk (below_step (by repeat (first | (with_reducible first | exact HB.out | apply below_alloc | apply pw_below_drewN | apply below_drew1) | exact HB.out)) hb); have n1_ := Aside0.mk (hbox); have n2_ := Aside0.mk ((by rw [hg]; exact (below_size (by repeat (first | (with_reducible first | exact HB.out | apply below_alloc | apply pw_below_drewN | apply below_drew1) | exact HB.out))) : w.heap.size ≤ gb158)); have n3_ := Aside0.mk ((by rw [hg]; exact (below_size (by repeat (first | (with_reducible first | exact HB.out | apply below_alloc | apply pw_below_drewN | apply below_drew1) | exact HB.out))) : w.heap.size ≤ gb158)); clear HB; have HB := n0_; have BK158 := n1_; have GW158 := n2_; have GE158 := n3_; clear n0_ n1_ n2_ n3_; clear hb hbox hg; have hcz6_0 : w5.cell? ⟨gb158, 0, none⟩ = some (.slice A0_0 l0_0.length c0_0) := (blk_cell BK158.out 0).trans rfl; have hfz6_0 := blk_frozen BK158.out 0) | ((with_reducible refine gate_callee (f := 20) rfl ?_); refine goesL_ (some 21) rfl rfl Try.func20 (by kernel_rfl) rfl #[.agg #[.slice A0_0 l0_0.length c0_0], .int .i64 1048576] rfl (by (try simp only [List.map_toArray, List.map_cons, List.map_nil]); first | done | rfl | (simp only [List.length_drop, List.length_take]; rfl)) ?_; (with_reducible refine (laws_szTable.calls _ _ l0_0 1048576 t159 _ ?side1 ?side2 A3.out).mono ?_); (case side1 => repeat (first | exact (Kd.C_below HR0_0.out HB.out) | (with_reducible refine Kd.C_alloc ?_ _) | (with_reducible refine Kd.C_drewN ?_ _) | (with_reducible refine Kd.C_drew ?_))); (case side2 => exact HC0_0.out); rintro e w7 ⟨rfl, hb⟩; refine ⟨_, rfl, ?_⟩; have n0_ := Aside0.mk (blk_below (g := gb158) (o := .cells #[.slice A0_0 l0_0.length c0_0] 33 (0, 0)) (by (with_reducible repeat (first | refine blk_drewN ?_ _ | refine blk_drew ?_ | refine blk_alloc ?_ _)); exact BK158.out) hb); have n1_ := Aside0.mk (below_step (by repeat (first | (with_reducible first | exact HB.out | apply below_alloc | apply pw_below_drewN | apply below_drew1 | refine below_set ?_ GE158.out) | exact HB.out)) hb); clear BK158; clear HB; have BK158 := n0_; have HB := n1_; clear n0_ n1_; (try clear hb); (try clear hb2); (try clear hk); (try clear hi)))
    go_ret
    exact ⟨by first | rfl | (simp [errW_none, errW_some] <;> rfl) | (simp [*, errW_none, errW_some] <;> rfl), by repeat (first | (with_reducible first | exact HB.out | apply below_alloc | apply pw_below_drewN | apply below_drew1 | refine below_set ?_ GE158.out) | exact HB.out)⟩
  · rw [if_neg c4] at H
    have c4b0 : decide (t159 < 0) = false := decide_eq_false c4
    clear c4
    replace H := Option.bind_eq_some_iff.mp H
    obtain ⟨t160, A80, H⟩ := H
    replace H : ((spec_TableAdd.f k t160 a1).bind fun bt163 => ((laws_toTable.f k l0_0).bind fun t169 => ((impl_TableAdd.f k t169 a1).bind fun bt173 => ((laws_eqTable.f k bt173.1 bt163.1).bind fun t179 => (if t179 = true then (if bt173.2.1 = bt163.2.1 then (laws_FnExactTableAdd.j0 k a1 bt163.2.1 bt163.2.2 bt173.2.1 bt173.2.2 (bt173.2.2 != bt163.2.2) l0_0 bt163.1 t169 bt173.1) else (laws_FnExactTableAdd.j0 k a1 bt163.2.1 bt163.2.2 bt173.2.1 bt173.2.2 true l0_0 bt163.1 t169 bt173.1)) else (laws_FnExactTableAdd.j0 k a1 bt163.2.1 bt163.2.2 bt173.2.1 bt173.2.2 true l0_0 bt163.1 t169 bt173.1)))))) = some r := H
    have A8 := Aside0.mk A80
    clear A80
    replace H := Option.bind_eq_some_iff.mp H
    obtain ⟨⟨t163, t166, t167⟩, A90, H⟩ := H
    replace H : ((laws_toTable.f k l0_0).bind fun t169 => ((impl_TableAdd.f k t169 a1).bind fun bt173 => ((laws_eqTable.f k bt173.1 t163).bind fun t179 => (if t179 = true then (if bt173.2.1 = t166 then (laws_FnExactTableAdd.j0 k a1 t166 t167 bt173.2.1 bt173.2.2 (bt173.2.2 != t167) l0_0 t163 t169 bt173.1) else (laws_FnExactTableAdd.j0 k a1 t166 t167 bt173.2.1 bt173.2.2 true l0_0 t163 t169 bt173.1)) else (laws_FnExactTableAdd.j0 k a1 t166 t167 bt173.2.1 bt173.2.2 true l0_0 t163 t169 bt173.1))))) = some r := H
    have A9 := Aside0.mk A90
    clear A90
    replace H := Option.bind_eq_some_iff.mp H
    obtain ⟨t169, A100, H⟩ := H
    replace H : ((impl_TableAdd.f k t169 a1).bind fun bt173 => ((laws_eqTable.f k bt173.1 t163).bind fun t179 => (if t179 = true then (if bt173.2.1 = t166 then (laws_FnExactTableAdd.j0 k a1 t166 t167 bt173.2.1 bt173.2.2 (bt173.2.2 != t167) l0_0 t163 t169 bt173.1) else (laws_FnExactTableAdd.j0 k a1 t166 t167 bt173.2.1 bt173.2.2 true l0_0 t163 t169 bt173.1)) else (laws_FnExactTableAdd.j0 k a1 t166 t167 bt173.2.1 bt173.2.2 true l0_0 t163 t169 bt173.1)))) = some r := H
    have A10 := Aside0.mk A100
    clear A100
    replace H := Option.bind_eq_some_iff.mp H
    obtain ⟨⟨t173, t176, t177⟩, A110, H⟩ := H
    replace H : ((laws_eqTable.f k t173 t163).bind fun t179 => (if t179 = true then (if t176 = t166 then (laws_FnExactTableAdd.j0 k a1 t166 t167 t176 t177 (t177 != t167) l0_0 t163 t169 t173) else (laws_FnExactTableAdd.j0 k a1 t166 t167 t176 t177 true l0_0 t163 t169 t173)) else (laws_FnExactTableAdd.j0 k a1 t166 t167 t176 t177 true l0_0 t163 t169 t173))) = some r := H
    have A11 := Aside0.mk A110
    clear A110
    have HC12 := Aside0.mk H
    clear H
    go_enter Try.func9, Try.ntmps9
    go_upto_region 8 with (first | ((with_reducible refine gate_dst (N := 2) rfl ?_); refine box_event ?hg (N := 2) ?hd (cs := #[.slice A0_0 l0_0.length c0_0]) (t := 33) ?hr ?_; (case hd => rfl); (case hg => rfl); (case hr => first | (go_simp; done) | (go_simp; rfl)); intro gb158 hg w13 hbox hb; have n0_ := Aside0.mk (below_step (by repeat (first | (with_reducible first | exact HB.out | apply below_alloc | apply pw_below_drewN | apply below_drew1) | exact HB.out)) hb); have n1_ := Aside0.mk (hbox); have n2_ := Aside0.mk ((by rw [hg]; exact (below_size (by repeat (first | (with_reducible first | exact HB.out | apply below_alloc | apply pw_below_drewN | apply below_drew1) | exact HB.out))) : w.heap.size ≤ gb158)); have n3_ := Aside0.mk ((by rw [hg]; exact (below_size (by repeat (first | (with_reducible first | exact HB.out | apply below_alloc | apply pw_below_drewN | apply below_drew1) | exact HB.out))) : w.heap.size ≤ gb158)); clear HB; have HB := n0_; have BK158 := n1_; have GW158 := n2_; have GE158 := n3_; clear n0_ n1_ n2_ n3_; clear hb hbox hg; have hcz14_0 : w13.cell? ⟨gb158, 0, none⟩ = some (.slice A0_0 l0_0.length c0_0) := (blk_cell BK158.out 0).trans rfl; have hfz14_0 := blk_frozen BK158.out 0) | ((with_reducible refine gate_callee (f := 20) rfl ?_); refine goesL_ (some 21) rfl rfl Try.func20 (by kernel_rfl) rfl #[.agg #[.slice A0_0 l0_0.length c0_0], .int .i64 1048576] rfl (by (try simp only [List.map_toArray, List.map_cons, List.map_nil]); first | done | rfl | (simp only [List.length_drop, List.length_take]; rfl)) ?_; (with_reducible refine (laws_szTable.calls _ _ l0_0 1048576 t159 _ ?side1 ?side2 A3.out).mono ?_); (case side1 => repeat (first | exact (Kd.C_below HR0_0.out HB.out) | (with_reducible refine Kd.C_alloc ?_ _) | (with_reducible refine Kd.C_drewN ?_ _) | (with_reducible refine Kd.C_drew ?_))); (case side2 => exact HC0_0.out); rintro e w15 ⟨rfl, hb⟩; refine ⟨_, rfl, ?_⟩; have n0_ := Aside0.mk (blk_below (g := gb158) (o := .cells #[.slice A0_0 l0_0.length c0_0] 33 (0, 0)) (by (with_reducible repeat (first | refine blk_drewN ?_ _ | refine blk_drew ?_ | refine blk_alloc ?_ _)); exact BK158.out) hb); have n1_ := Aside0.mk (below_step (by repeat (first | (with_reducible first | exact HB.out | apply below_alloc | apply pw_below_drewN | apply below_drew1 | refine below_set ?_ GE158.out) | exact HB.out)) hb); clear BK158; clear HB; have BK158 := n0_; have HB := n1_; clear n0_ n1_; (try clear hb); (try clear hb2); (try clear hk); (try clear hi); have hcz16_0 : w15.cell? ⟨gb158, 0, none⟩ = some (.slice A0_0 l0_0.length c0_0) := (blk_cell BK158.out 0).trans rfl; have hfz16_0 := blk_frozen BK158.out 0) | ((with_reducible refine gate_callee (f := 22) rfl ?_); refine goesL_ (some 26) rfl rfl Try.func22 (by kernel_rfl) rfl #[.agg #[.slice A0_0 l0_0.length c0_0]] rfl (by (try simp only [List.map_toArray, List.map_cons, List.map_nil]); first | done | rfl | (simp only [List.length_drop, List.length_take]; rfl)) ?_; (with_reducible refine (laws_toTable.calls k _ _ l0_0 t160 _ ?side1 ?side2 A8.out).mono ?_); (case side1 => repeat (first | exact (Kd.C_below HR0_0.out HB.out) | (with_reducible refine Kd.C_alloc ?_ _) | (with_reducible refine Kd.C_drewN ?_ _) | (with_reducible refine Kd.C_drew ?_))); (case side2 => exact HC0_0.out); rintro e w17 ⟨v161, rfl, ho0, hb⟩; refine ⟨_, rfl, ?_⟩; have n0_ := Aside0.mk (Kd.R_lower ho0 (below_size (by repeat (first | (with_reducible first | exact HB.out | apply below_alloc | apply pw_below_drewN | apply below_drew1 | refine below_set ?_ GE158.out) | exact HB.out)))); have n1_ := Aside0.mk (blk_below (g := gb158) (o := .cells #[.slice A0_0 l0_0.length c0_0] 33 (0, 0)) (by (with_reducible repeat (first | refine blk_drewN ?_ _ | refine blk_drew ?_ | refine blk_alloc ?_ _)); exact BK158.out) hb); have n2_ := Aside0.mk (below_step (by repeat (first | (with_reducible first | exact HB.out | apply below_alloc | apply pw_below_drewN | apply below_drew1 | refine below_set ?_ GE158.out) | exact HB.out)) hb); clear BK158; clear HB; have HO162 := n0_; have BK158 := n1_; have HB := n2_; clear n0_ n1_ n2_; (try clear hb); (try clear hb2); (try clear hk); (try clear hi); (try clear ho0); obtain ⟨Ao18, co18, eo18⟩ := Kd.R_slice HO162.out; subst eo18) | ((with_reducible refine gate_callee (f := 30) rfl ?_); refine goesL_ (some 28) rfl rfl Try.func30 (by kernel_rfl) rfl #[.agg #[.slice Ao18 t160.length co18], .int .i64 a1] rfl (by (try simp only [List.map_toArray, List.map_cons, List.map_nil]); first | done | rfl | (simp only [List.length_drop, List.length_take]; rfl)) ?_; (with_reducible refine (spec_TableAdd.calls k _ _ t160 a1 t163 t166 t167 _ ?side1 ?side2 A9.out).mono ?_); (case side1 => repeat (first | exact (Kd.R_reads' HO162.out).2.2 | (with_reducible refine Kd.C_alloc ?_ _) | (with_reducible refine Kd.C_drewN ?_ _) | (with_reducible refine Kd.C_drew ?_))); (case side2 => exact (Kd.R_reads' HO162.out).2.1); rintro e w19 ⟨v164, rfl, ho0, hb⟩; refine ⟨_, rfl, ?_⟩; have n0_ := Aside0.mk (Kd.R_elder' (by (with_reducible repeat (first | apply Kd.R_alloc | apply Kd.R_drewN | apply Kd.R_drew)); exact HO162.out) (Kd.R_base ho0) hb); have n1_ := Aside0.mk (Kd.R_lower (Kd.R_new' ho0 (Kd.R_lt (by (with_reducible repeat (first | apply Kd.R_alloc | apply Kd.R_drewN | apply Kd.R_drew)); exact HO162.out))) (below_size (by repeat (first | (with_reducible first | exact HB.out | apply below_alloc | apply pw_below_drewN | apply below_drew1 | refine below_set ?_ GE158.out) | exact HB.out)))); have n2_ := Aside0.mk (blk_below (g := gb158) (o := .cells #[.slice A0_0 l0_0.length c0_0] 33 (0, 0)) (by (with_reducible repeat (first | refine blk_drewN ?_ _ | refine blk_drew ?_ | refine blk_alloc ?_ _)); exact BK158.out) hb); have n3_ := Aside0.mk (below_step (by repeat (first | (with_reducible first | exact HB.out | apply below_alloc | apply pw_below_drewN | apply below_drew1 | refine below_set ?_ GE158.out) | exact HB.out)) hb); clear HO162; clear BK158; clear HB; have HO162 := n0_; have HO165 := n1_; have BK158 := n2_; have HB := n3_; clear n0_ n1_ n2_ n3_; (try clear hb); (try clear hb2); (try clear hk); (try clear hi); (try clear ho0)) | ((with_reducible refine gate_dst (N := 6) rfl ?_); refine box_event ?hg (N := 6) ?hd (cs := #[.slice none 0 0]) (t := 36) ?hr ?_; (case hd => rfl); (case hg => rfl); (case hr => first | (go_simp; done) | (go_simp; rfl)); intro gb168 hg w20 hbox hb; have n0_ := Aside0.mk (Kd.R_below (by (with_reducible repeat (first | apply Kd.R_alloc | apply Kd.R_drewN | apply Kd.R_drew)); exact HO162.out) hb); have n1_ := Aside0.mk (Kd.R_below (by (with_reducible repeat (first | apply Kd.R_alloc | apply Kd.R_drewN | apply Kd.R_drew)); exact HO165.out) hb); have n2_ := Aside0.mk (blk_below (g := gb158) (o := .cells #[.slice A0_0 l0_0.length c0_0] 33 (0, 0)) (by (with_reducible repeat (first | refine blk_drewN ?_ _ | refine blk_drew ?_ | refine blk_alloc ?_ _)); exact BK158.out) hb); have n3_ := Aside0.mk (below_step (by repeat (first | (with_reducible first | exact HB.out | apply below_alloc | apply pw_below_drewN | apply below_drew1 | refine below_set ?_ GE158.out) | exact HB.out)) hb); have n4_ := Aside0.mk (hbox); have n5_ := Aside0.mk ((by rw [hg]; exact (below_size (by repeat (first | (with_reducible first | exact HB.out | apply below_alloc | apply pw_below_drewN | apply below_drew1 | refine below_set ?_ GE158.out) | exact HB.out))) : w.heap.size ≤ gb168)); have n6_ := Aside0.mk ((by rw [hg]; exact (below_size (by repeat (first | (with_reducible first | exact HB.out | apply below_alloc | apply pw_below_drewN | apply below_drew1 | refine below_set ?_ GE158.out) | exact HB.out))) : w.heap.size ≤ gb168)); have n7_ := Aside0.mk ((by rw [hg]; exact Nat.ne_of_lt (blk_lt (g := gb158) (o := .cells #[.slice A0_0 l0_0.length c0_0] 33 (0, 0)) (by (with_reducible repeat (first | refine blk_drewN ?_ _ | refine blk_drew ?_ | refine blk_alloc ?_ _)); exact BK158.out)) : gb158 ≠ gb168)); have n8_ := Aside0.mk ((by rw [hg]; exact Nat.ne_of_gt (blk_lt (g := gb158) (o := .cells #[.slice A0_0 l0_0.length c0_0] 33 (0, 0)) (by (with_reducible repeat (first | refine blk_drewN ?_ _ | refine blk_drew ?_ | refine blk_alloc ?_ _)); exact BK158.out)) : gb168 ≠ gb158)); clear HO162; clear HO165; clear BK158; clear HB; have HO162 := n0_; have HO165 := n1_; have BK158 := n2_; have HB := n3_; have BK168 := n4_; have GW168 := n5_; have GE168 := n6_; have NB158_168 := n7_; have NB168_158 := n8_; clear n0_ n1_ n2_ n3_ n4_ n5_ n6_ n7_ n8_; clear hb hbox hg; obtain ⟨Ao21, co21, eo21⟩ := Kd.R_slice HO165.out; subst eo21; have hnb22 := NB168_158.out; have hnc22 := NB158_168.out; have hcz23_0 : w20.cell? ⟨gb168, 0, none⟩ = some (.slice none 0 0) := (blk_cell BK168.out 0).trans rfl; have hfz23_0 := blk_frozen BK168.out 0; have hcz24_0 : w20.cell? ⟨gb158, 0, none⟩ = some (.slice A0_0 l0_0.length c0_0) := (blk_cell BK158.out 0).trans rfl; have hfz24_0 := blk_frozen BK158.out 0) | ((with_reducible refine gate_callee (f := 22) rfl ?_); refine goesL_ (some 33) rfl rfl Try.func22 (by kernel_rfl) rfl #[.agg #[.slice A0_0 l0_0.length c0_0]] rfl (by (try simp only [List.map_toArray, List.map_cons, List.map_nil]); first | done | rfl | (simp only [List.length_drop, List.length_take]; rfl)) ?_; (with_reducible refine (laws_toTable.calls k _ _ l0_0 t169 _ ?side1 ?side2 A10.out).mono ?_); (case side1 => exact Kd.C_below HR0_0.out (by repeat (first | (with_reducible first | exact HB.out | apply below_alloc | apply pw_below_drewN | apply below_drew1 | refine below_set ?_ GE158.out | refine below_set ?_ GE168.out) | exact HB.out))); (case side2 => exact HC0_0.out); rintro e w25 ⟨v170, rfl, ho0, hb⟩; refine ⟨_, rfl, ?_⟩; have n0_ := Aside0.mk (Kd.R_elder' (by (with_reducible repeat (first | apply Kd.R_alloc | apply Kd.R_drewN | apply Kd.R_drew)); exact (Kd.R_mono (Kd.R_far (p := ⟨gb168, 0, none⟩) (Kd.R_types HO162.out BK168.out (by decide)) (fun _ hk => hk.2) (.slice Ao21 t163.length co21)) (fun _ h_ => h_.1))) (Kd.R_base ho0) hb); have n1_ := Aside0.mk (Kd.R_elder' (by (with_reducible repeat (first | apply Kd.R_alloc | apply Kd.R_drewN | apply Kd.R_drew)); exact (Kd.R_mono (Kd.R_far (p := ⟨gb168, 0, none⟩) (Kd.R_types HO165.out BK168.out (by decide)) (fun _ hk => hk.2) (.slice Ao21 t163.length co21)) (fun _ h_ => h_.1))) (Kd.R_base ho0) hb); have n2_ := Aside0.mk (Kd.R_lower (Kd.R_new' (Kd.R_new' ho0 (Kd.R_lt (by (with_reducible repeat (first | apply Kd.R_alloc | apply Kd.R_drewN | apply Kd.R_drew)); exact (Kd.R_mono (Kd.R_far (p := ⟨gb168, 0, none⟩) (Kd.R_types HO162.out BK168.out (by decide)) (fun _ hk => hk.2) (.slice Ao21 t163.length co21)) (fun _ h_ => h_.1))))) (Kd.R_lt (by (with_reducible repeat (first | apply Kd.R_alloc | apply Kd.R_drewN | apply Kd.R_drew)); exact (Kd.R_mono (Kd.R_far (p := ⟨gb168, 0, none⟩) (Kd.R_types HO165.out BK168.out (by decide)) (fun _ hk => hk.2) (.slice Ao21 t163.length co21)) (fun _ h_ => h_.1))))) (below_size (by repeat (first | (with_reducible first | exact HB.out | apply below_alloc | apply pw_below_drewN | apply below_drew1 | refine below_set ?_ GE158.out | refine below_set ?_ GE168.out) | exact HB.out)))); have n3_ := Aside0.mk (blk_below (g := gb158) (o := .cells #[.slice A0_0 l0_0.length c0_0] 33 (0, 0)) (by (with_reducible repeat (first | refine blk_drewN ?_ _ | refine blk_drew ?_ | refine blk_alloc ?_ _)); refine blk_far ?_ NB158_168.out _; (with_reducible repeat (first | refine blk_drewN ?_ _ | refine blk_drew ?_ | refine blk_alloc ?_ _)); exact BK158.out) hb); have n4_ := Aside0.mk (blk_below (g := gb168) (o := .cells #[.slice Ao21 t163.length co21] 36 (0, 0)) (by (with_reducible repeat (first | refine blk_drewN ?_ _ | refine blk_drew ?_ | refine blk_alloc ?_ _)); refine blk_put (cs := #[.slice none 0 0]) ?_ 0 _ rfl; (with_reducible repeat (first | refine blk_drewN ?_ _ | refine blk_drew ?_ | refine blk_alloc ?_ _)); exact BK168.out) hb); have n5_ := Aside0.mk (below_step (by repeat (first | (with_reducible first | exact HB.out | apply below_alloc | apply pw_below_drewN | apply below_drew1 | refine below_set ?_ GE158.out | refine below_set ?_ GE168.out) | exact HB.out)) hb); clear HO162; clear HO165; clear BK158; clear BK168; clear HB; have HO162 := n0_; have HO165 := n1_; have HO171 := n2_; have BK158 := n3_; have BK168 := n4_; have HB := n5_; clear n0_ n1_ n2_ n3_ n4_ n5_; (try clear hb); (try clear hb2); (try clear hk); (try clear hi); (try clear ho0)) | ((with_reducible refine gate_dst (N := 9) rfl ?_); refine box_event ?hg (N := 9) ?hd (cs := #[.slice none 0 0]) (t := 36) ?hr ?_; (case hd => rfl); (case hg => rfl); (case hr => first | (go_simp; done) | (go_simp; rfl)); intro gb172 hg w26 hbox hb; have n0_ := Aside0.mk (Kd.R_below (by (with_reducible repeat (first | apply Kd.R_alloc | apply Kd.R_drewN | apply Kd.R_drew)); exact HO162.out) hb); have n1_ := Aside0.mk (Kd.R_below (by (with_reducible repeat (first | apply Kd.R_alloc | apply Kd.R_drewN | apply Kd.R_drew)); exact HO165.out) hb); have n2_ := Aside0.mk (Kd.R_below (by (with_reducible repeat (first | apply Kd.R_alloc | apply Kd.R_drewN | apply Kd.R_drew)); exact HO171.out) hb); have n3_ := Aside0.mk (blk_below (g := gb158) (o := .cells #[.slice A0_0 l0_0.length c0_0] 33 (0, 0)) (by (with_reducible repeat (first | refine blk_drewN ?_ _ | refine blk_drew ?_ | refine blk_alloc ?_ _)); exact BK158.out) hb); have n4_ := Aside0.mk (blk_below (g := gb168) (o := .cells #[.slice Ao21 t163.length co21] 36 (0, 0)) (by (with_reducible repeat (first | refine blk_drewN ?_ _ | refine blk_drew ?_ | refine blk_alloc ?_ _)); exact BK168.out) hb); have n5_ := Aside0.mk (below_step (by repeat (first | (with_reducible first | exact HB.out | apply below_alloc | apply pw_below_drewN | apply below_drew1 | refine below_set ?_ GE158.out | refine below_set ?_ GE168.out) | exact HB.out)) hb); have n6_ := Aside0.mk (hbox); have n7_ := Aside0.mk ((by rw [hg]; exact (below_size (by repeat (first | (with_reducible first | exact HB.out | apply below_alloc | apply pw_below_drewN | apply below_drew1 | refine below_set ?_ GE158.out | refine below_set ?_ GE168.out) | exact HB.out))) : w.heap.size ≤ gb172)); have n8_ := Aside0.mk ((by rw [hg]; exact (below_size (by repeat (first | (with_reducible first | exact HB.out | apply below_alloc | apply pw_below_drewN | apply below_drew1 | refine below_set ?_ GE158.out | refine below_set ?_ GE168.out) | exact HB.out))) : w.heap.size ≤ gb172)); have n9_ := Aside0.mk ((by rw [hg]; exact Nat.ne_of_lt (blk_lt (g := gb158) (o := .cells #[.slice A0_0 l0_0.length c0_0] 33 (0, 0)) (by (with_reducible repeat (first | refine blk_drewN ?_ _ | refine blk_drew ?_ | refine blk_alloc ?_ _)); exact BK158.out)) : gb158 ≠ gb172)); have n10_ := Aside0.mk ((by rw [hg]; exact Nat.ne_of_gt (blk_lt (g := gb158) (o := .cells #[.slice A0_0 l0_0.length c0_0] 33 (0, 0)) (by (with_reducible repeat (first | refine blk_drewN ?_ _ | refine blk_drew ?_ | refine blk_alloc ?_ _)); exact BK158.out)) : gb172 ≠ gb158)); have n11_ := Aside0.mk ((by rw [hg]; exact Nat.ne_of_lt (blk_lt (g := gb168) (o := .cells #[.slice Ao21 t163.length co21] 36 (0, 0)) (by (with_reducible repeat (first | refine blk_drewN ?_ _ | refine blk_drew ?_ | refine blk_alloc ?_ _)); exact BK168.out)) : gb168 ≠ gb172)); have n12_ := Aside0.mk ((by rw [hg]; exact Nat.ne_of_gt (blk_lt (g := gb168) (o := .cells #[.slice Ao21 t163.length co21] 36 (0, 0)) (by (with_reducible repeat (first | refine blk_drewN ?_ _ | refine blk_drew ?_ | refine blk_alloc ?_ _)); exact BK168.out)) : gb172 ≠ gb168)); clear HO162; clear HO165; clear HO171; clear BK158; clear BK168; clear HB; have HO162 := n0_; have HO165 := n1_; have HO171 := n2_; have BK158 := n3_; have BK168 := n4_; have HB := n5_; have BK172 := n6_; have GW172 := n7_; have GE172 := n8_; have NB158_172 := n9_; have NB172_158 := n10_; have NB168_172 := n11_; have NB172_168 := n12_; clear n0_ n1_ n2_ n3_ n4_ n5_ n6_ n7_ n8_ n9_ n10_ n11_ n12_; clear hb hbox hg; obtain ⟨Ao27, co27, eo27⟩ := Kd.R_slice HO171.out; subst eo27; have hnb28 := NB172_158.out; have hnc28 := NB158_172.out; have hnb29 := NB172_168.out; have hnc29 := NB168_172.out; have hcz30_0 : w26.cell? ⟨gb172, 0, none⟩ = some (.slice none 0 0) := (blk_cell BK172.out 0).trans rfl; have hfz30_0 := blk_frozen BK172.out 0) | ((with_reducible refine gate_callee (f := 29) rfl ?_); refine goesL_ (some 37) rfl rfl Try.func29 (by kernel_rfl) rfl #[.agg #[.slice Ao27 t169.length co27], .int .i64 a1] rfl (by (try simp only [List.map_toArray, List.map_cons, List.map_nil]); first | done | rfl | (simp only [List.length_drop, List.length_take]; rfl)) ?_; (with_reducible refine (impl_TableAdd.calls k _ _ t169 a1 t173 t176 t177 _ ?side1 ?side2 A11.out).mono ?_); (case side1 => refine (Kd.R_reads' (e := 3) (base := w.heap.size) (ok := fun k_ => ((True ∧ some k_ ≠ (.slice Ao18 t160.length co18 : Value).ownBlock) ∧ some k_ ≠ (.slice Ao21 t163.length co21 : Value).ownBlock)) (n := t169.length) (c := co27) ?_).2.2; exact (by (with_reducible repeat (first | apply Kd.R_alloc | apply Kd.R_drewN | apply Kd.R_drew)); exact (Kd.R_mono (Kd.R_far (p := ⟨gb172, 0, none⟩) (Kd.R_types HO171.out BK172.out (by decide)) (fun _ hk => hk.2) (.slice Ao27 t169.length co27)) (fun _ h_ => h_.1)))); (case side2 => exact (Kd.R_reads' HO171.out).2.1); rintro e w31 ⟨v174, rfl, ho0, hb⟩; refine ⟨_, rfl, ?_⟩; have n0_ := Aside0.mk (Kd.R_elder' (by (with_reducible repeat (first | apply Kd.R_alloc | apply Kd.R_drewN | apply Kd.R_drew)); exact (Kd.R_mono (Kd.R_far (p := ⟨gb172, 0, none⟩) (Kd.R_types HO162.out BK172.out (by decide)) (fun _ hk => hk.2) (.slice Ao27 t169.length co27)) (fun _ h_ => h_.1))) (Kd.R_base ho0) hb); have n1_ := Aside0.mk (Kd.R_elder' (by (with_reducible repeat (first | apply Kd.R_alloc | apply Kd.R_drewN | apply Kd.R_drew)); exact (Kd.R_mono (Kd.R_far (p := ⟨gb172, 0, none⟩) (Kd.R_types HO165.out BK172.out (by decide)) (fun _ hk => hk.2) (.slice Ao27 t169.length co27)) (fun _ h_ => h_.1))) (Kd.R_base ho0) hb); have n2_ := Aside0.mk (Kd.R_elder' (by (with_reducible repeat (first | apply Kd.R_alloc | apply Kd.R_drewN | apply Kd.R_drew)); exact (Kd.R_mono (Kd.R_far (p := ⟨gb172, 0, none⟩) (Kd.R_types HO171.out BK172.out (by decide)) (fun _ hk => hk.2) (.slice Ao27 t169.length co27)) (fun _ h_ => h_.1))) (Kd.R_base ho0) hb); have n3_ := Aside0.mk (Kd.R_lower (Kd.R_new' (Kd.R_new' (Kd.R_new' ho0 (Kd.R_lt (by (with_reducible repeat (first | apply Kd.R_alloc | apply Kd.R_drewN | apply Kd.R_drew)); exact (Kd.R_mono (Kd.R_far (p := ⟨gb172, 0, none⟩) (Kd.R_types HO162.out BK172.out (by decide)) (fun _ hk => hk.2) (.slice Ao27 t169.length co27)) (fun _ h_ => h_.1))))) (Kd.R_lt (by (with_reducible repeat (first | apply Kd.R_alloc | apply Kd.R_drewN | apply Kd.R_drew)); exact (Kd.R_mono (Kd.R_far (p := ⟨gb172, 0, none⟩) (Kd.R_types HO165.out BK172.out (by decide)) (fun _ hk => hk.2) (.slice Ao27 t169.length co27)) (fun _ h_ => h_.1))))) (Kd.R_lt (by (with_reducible repeat (first | apply Kd.R_alloc | apply Kd.R_drewN | apply Kd.R_drew)); exact (Kd.R_mono (Kd.R_far (p := ⟨gb172, 0, none⟩) (Kd.R_types HO171.out BK172.out (by decide)) (fun _ hk => hk.2) (.slice Ao27 t169.length co27)) (fun _ h_ => h_.1))))) (below_size (by repeat (first | (with_reducible first | exact HB.out | apply below_alloc | apply pw_below_drewN | apply below_drew1 | refine below_set ?_ GE158.out | refine below_set ?_ GE168.out | refine below_set ?_ GE172.out) | exact HB.out)))); have n4_ := Aside0.mk (blk_below (g := gb158) (o := .cells #[.slice A0_0 l0_0.length c0_0] 33 (0, 0)) (by (with_reducible repeat (first | refine blk_drewN ?_ _ | refine blk_drew ?_ | refine blk_alloc ?_ _)); refine blk_far ?_ NB158_172.out _; (with_reducible repeat (first | refine blk_drewN ?_ _ | refine blk_drew ?_ | refine blk_alloc ?_ _)); exact BK158.out) hb); have n5_ := Aside0.mk (blk_below (g := gb168) (o := .cells #[.slice Ao21 t163.length co21] 36 (0, 0)) (by (with_reducible repeat (first | refine blk_drewN ?_ _ | refine blk_drew ?_ | refine blk_alloc ?_ _)); refine blk_far ?_ NB168_172.out _; (with_reducible repeat (first | refine blk_drewN ?_ _ | refine blk_drew ?_ | refine blk_alloc ?_ _)); exact BK168.out) hb); have n6_ := Aside0.mk (blk_below (g := gb172) (o := .cells #[.slice Ao27 t169.length co27] 36 (0, 0)) (by (with_reducible repeat (first | refine blk_drewN ?_ _ | refine blk_drew ?_ | refine blk_alloc ?_ _)); refine blk_put (cs := #[.slice none 0 0]) ?_ 0 _ rfl; (with_reducible repeat (first | refine blk_drewN ?_ _ | refine blk_drew ?_ | refine blk_alloc ?_ _)); exact BK172.out) hb); have n7_ := Aside0.mk (below_step (by repeat (first | (with_reducible first | exact HB.out | apply below_alloc | apply pw_below_drewN | apply below_drew1 | refine below_set ?_ GE158.out | refine below_set ?_ GE168.out | refine below_set ?_ GE172.out) | exact HB.out)) hb); clear HO162; clear HO165; clear HO171; clear BK158; clear BK168; clear BK172; clear HB; have HO162 := n0_; have HO165 := n1_; have HO171 := n2_; have HO175 := n3_; have BK158 := n4_; have BK168 := n5_; have BK172 := n6_; have HB := n7_; clear n0_ n1_ n2_ n3_ n4_ n5_ n6_ n7_; (try clear hb); (try clear hb2); (try clear hk); (try clear hi); (try clear ho0)) | ((with_reducible refine gate_dst (N := 10) rfl ?_); refine box_event ?hg (N := 10) ?hd (cs := #[.slice none 0 0]) (t := 36) ?hr ?_; (case hd => rfl); (case hg => rfl); (case hr => first | (go_simp; done) | (go_simp; rfl)); intro gb178 hg w32 hbox hb; have n0_ := Aside0.mk (Kd.R_below (by (with_reducible repeat (first | apply Kd.R_alloc | apply Kd.R_drewN | apply Kd.R_drew)); exact HO162.out) hb); have n1_ := Aside0.mk (Kd.R_below (by (with_reducible repeat (first | apply Kd.R_alloc | apply Kd.R_drewN | apply Kd.R_drew)); exact HO165.out) hb); have n2_ := Aside0.mk (Kd.R_below (by (with_reducible repeat (first | apply Kd.R_alloc | apply Kd.R_drewN | apply Kd.R_drew)); exact HO171.out) hb); have n3_ := Aside0.mk (Kd.R_below (by (with_reducible repeat (first | apply Kd.R_alloc | apply Kd.R_drewN | apply Kd.R_drew)); exact HO175.out) hb); have n4_ := Aside0.mk (blk_below (g := gb158) (o := .cells #[.slice A0_0 l0_0.length c0_0] 33 (0, 0)) (by (with_reducible repeat (first | refine blk_drewN ?_ _ | refine blk_drew ?_ | refine blk_alloc ?_ _)); exact BK158.out) hb); have n5_ := Aside0.mk (blk_below (g := gb168) (o := .cells #[.slice Ao21 t163.length co21] 36 (0, 0)) (by (with_reducible repeat (first | refine blk_drewN ?_ _ | refine blk_drew ?_ | refine blk_alloc ?_ _)); exact BK168.out) hb); have n6_ := Aside0.mk (blk_below (g := gb172) (o := .cells #[.slice Ao27 t169.length co27] 36 (0, 0)) (by (with_reducible repeat (first | refine blk_drewN ?_ _ | refine blk_drew ?_ | refine blk_alloc ?_ _)); exact BK172.out) hb); have n7_ := Aside0.mk (below_step (by repeat (first | (with_reducible first | exact HB.out | apply below_alloc | apply pw_below_drewN | apply below_drew1 | refine below_set ?_ GE158.out | refine below_set ?_ GE168.out | refine below_set ?_ GE172.out) | exact HB.out)) hb); have n8_ := Aside0.mk (hbox); have n9_ := Aside0.mk ((by rw [hg]; exact (below_size (by repeat (first | (with_reducible first | exact HB.out | apply below_alloc | apply pw_below_drewN | apply below_drew1 | refine below_set ?_ GE158.out | refine below_set ?_ GE168.out | refine below_set ?_ GE172.out) | exact HB.out))) : w.heap.size ≤ gb178)); have n10_ := Aside0.mk ((by rw [hg]; exact (below_size (by repeat (first | (with_reducible first | exact HB.out | apply below_alloc | apply pw_below_drewN | apply below_drew1 | refine below_set ?_ GE158.out | refine below_set ?_ GE168.out | refine below_set ?_ GE172.out) | exact HB.out))) : w.heap.size ≤ gb178)); have n11_ := Aside0.mk ((by rw [hg]; exact Nat.ne_of_lt (blk_lt (g := gb158) (o := .cells #[.slice A0_0 l0_0.length c0_0] 33 (0, 0)) (by (with_reducible repeat (first | refine blk_drewN ?_ _ | refine blk_drew ?_ | refine blk_alloc ?_ _)); exact BK158.out)) : gb158 ≠ gb178)); have n12_ := Aside0.mk ((by rw [hg]; exact Nat.ne_of_gt (blk_lt (g := gb158) (o := .cells #[.slice A0_0 l0_0.length c0_0] 33 (0, 0)) (by (with_reducible repeat (first | refine blk_drewN ?_ _ | refine blk_drew ?_ | refine blk_alloc ?_ _)); exact BK158.out)) : gb178 ≠ gb158)); have n13_ := Aside0.mk ((by rw [hg]; exact Nat.ne_of_lt (blk_lt (g := gb168) (o := .cells #[.slice Ao21 t163.length co21] 36 (0, 0)) (by (with_reducible repeat (first | refine blk_drewN ?_ _ | refine blk_drew ?_ | refine blk_alloc ?_ _)); exact BK168.out)) : gb168 ≠ gb178)); have n14_ := Aside0.mk ((by rw [hg]; exact Nat.ne_of_gt (blk_lt (g := gb168) (o := .cells #[.slice Ao21 t163.length co21] 36 (0, 0)) (by (with_reducible repeat (first | refine blk_drewN ?_ _ | refine blk_drew ?_ | refine blk_alloc ?_ _)); exact BK168.out)) : gb178 ≠ gb168)); have n15_ := Aside0.mk ((by rw [hg]; exact Nat.ne_of_lt (blk_lt (g := gb172) (o := .cells #[.slice Ao27 t169.length co27] 36 (0, 0)) (by (with_reducible repeat (first | refine blk_drewN ?_ _ | refine blk_drew ?_ | refine blk_alloc ?_ _)); exact BK172.out)) : gb172 ≠ gb178)); have n16_ := Aside0.mk ((by rw [hg]; exact Nat.ne_of_gt (blk_lt (g := gb172) (o := .cells #[.slice Ao27 t169.length co27] 36 (0, 0)) (by (with_reducible repeat (first | refine blk_drewN ?_ _ | refine blk_drew ?_ | refine blk_alloc ?_ _)); exact BK172.out)) : gb178 ≠ gb172)); clear HO162; clear HO165; clear HO171; clear HO175; clear BK158; clear BK168; clear BK172; clear HB; have HO162 := n0_; have HO165 := n1_; have HO171 := n2_; have HO175 := n3_; have BK158 := n4_; have BK168 := n5_; have BK172 := n6_; have HB := n7_; have BK178 := n8_; have GW178 := n9_; have GE178 := n10_; have NB158_178 := n11_; have NB178_158 := n12_; have NB168_178 := n13_; have NB178_168 := n14_; have NB172_178 := n15_; have NB178_172 := n16_; clear n0_ n1_ n2_ n3_ n4_ n5_ n6_ n7_ n8_ n9_ n10_ n11_ n12_ n13_ n14_ n15_ n16_; clear hb hbox hg; obtain ⟨Ao33, co33, eo33⟩ := Kd.R_slice HO175.out; subst eo33; have hnb34 := NB178_158.out; have hnc34 := NB158_178.out; have hnb35 := NB178_168.out; have hnc35 := NB168_178.out; have hnb36 := NB178_172.out; have hnc36 := NB172_178.out; have hcz37_0 : w32.cell? ⟨gb178, 0, none⟩ = some (.slice none 0 0) := (blk_cell BK178.out 0).trans rfl; have hfz37_0 := blk_frozen BK178.out 0))
    (try simp only [Act.put, List.setIfInBounds_toArray, List.set_cons_zero, List.set_cons_succ])
    go_cut [54] (fun v54 wc => ∃ (kq : Nat) (x54_11 : Bool), v54 = .bool x54_11 ∧ Aside0 (laws_FnExactTableAdd.j0 kq a1 t166 t167 t176 t177 x54_11 l0_0 t163 t169 t173 = some r) ∧ Aside0 (kq ≤ k) ∧ Aside0 (Kd.R (Kd.int .i64) 3 wc w.heap.size (fun k_ => some k_ ≠ ((.slice Ao27 t169.length co27) : Value).ownBlock ∧ some k_ ≠ ((.slice Ao33 t173.length co33) : Value).ownBlock) (.slice Ao21 t163.length co21) t163) ∧ Aside0 (Kd.R (Kd.int .i64) 3 wc w.heap.size (fun k_ => some k_ ≠ ((.slice Ao21 t163.length co21) : Value).ownBlock ∧ some k_ ≠ ((.slice Ao33 t173.length co33) : Value).ownBlock) (.slice Ao27 t169.length co27) t169) ∧ Aside0 (Kd.R (Kd.int .i64) 3 wc w.heap.size (fun k_ => some k_ ≠ ((.slice Ao21 t163.length co21) : Value).ownBlock ∧ some k_ ≠ ((.slice Ao27 t169.length co27) : Value).ownBlock) (.slice Ao33 t173.length co33) t173) ∧ Aside0 (wc.heap[gb158]? = some (.cells #[(.slice A0_0 l0_0.length c0_0)] 33 (0, 0))) ∧ Aside0 (wc.heap[gb168]? = some (.cells #[(.slice Ao21 t163.length co21)] 36 (0, 0))) ∧ Aside0 (wc.heap[gb172]? = some (.cells #[(.slice Ao27 t169.length co27)] 36 (0, 0))) ∧ Aside0 (wc.heap[gb178]? = some (.cells #[(.slice Ao33 t173.length co33)] 36 (0, 0))) ∧ Aside0 (Below w.heap.size w wc))
    case first =>
      have H := HC12.out
      clear HC12
      replace H := Option.bind_eq_some_iff.mp H
      obtain ⟨t179, A380, H⟩ := H
      replace H : (if t179 = true then (if t176 = t166 then (laws_FnExactTableAdd.j0 k a1 t166 t167 t176 t177 (t177 != t167) l0_0 t163 t169 t173) else (laws_FnExactTableAdd.j0 k a1 t166 t167 t176 t177 true l0_0 t163 t169 t173)) else (laws_FnExactTableAdd.j0 k a1 t166 t167 t176 t177 true l0_0 t163 t169 t173)) = some r := H
      have A38 := Aside0.mk A380
      clear A380
      by_cases c39 : t179 = true
      · subst c39
        have H1 : (if t176 = t166 then (laws_FnExactTableAdd.j0 k a1 t166 t167 t176 t177 (t177 != t167) l0_0 t163 t169 t173) else (laws_FnExactTableAdd.j0 k a1 t166 t167 t176 t177 true l0_0 t163 t169 t173)) = some r := by rw [if_pos rfl] at H; exact H
        clear H
        have H := H1
        clear H1
        by_cases c40 : t176 = t166
        · rw [if_pos c40] at H
          have c40b0 : (t176 == t166) = true := beq_iff_eq.mpr c40
          have c40b1 : (t176 != t166) = false := bne_eq_false_iff_eq.mpr c40
          clear c40
          (first | rw [c40b0] | (simp only [i64_w, i32_w]; rw [c40b0]) | skip)
          have H' := Aside0.mk H
          clear H
          have hnb41 := NB178_158.out
          have hnc41 := NB158_178.out
          have hnb42 := NB178_168.out
          have hnc42 := NB168_178.out
          have hnb43 := NB178_172.out
          have hnc43 := NB172_178.out
          have hcz44_0 : w32.cell? ⟨gb178, 0, none⟩ = some (.slice none 0 0) := (blk_cell BK178.out 0).trans rfl
          have hfz44_0 := blk_frozen BK178.out 0
          have hnb45 := NB168_158.out
          have hnc45 := NB158_168.out
          have hnb46 := NB168_172.out
          have hnc46 := NB172_168.out
          have hcz47_0 : w32.cell? ⟨gb168, 0, none⟩ = some (.slice Ao21 t163.length co21) := (blk_cell BK168.out 0).trans rfl
          have hfz47_0 := blk_frozen BK168.out 0
          go_wp2_with (first | ((with_reducible refine gate_callee (f := 24) rfl ?_); refine goesL_ (some 43) rfl rfl Try.func24 (by kernel_rfl) rfl #[.agg #[.slice Ao33 t173.length co33], .agg #[.slice Ao21 t163.length co21]] rfl (by (try simp only [List.map_toArray, List.map_cons, List.map_nil]); first | done | rfl | (simp only [List.length_drop, List.length_take]; rfl)) ?_; (with_reducible refine (laws_eqTable.calls k _ _ t173 _ _ t163 true _ ?side1 ?side2 ?side3 ?side4 A38.out).mono ?_); (case side1 => refine (Kd.R_reads' (e := 3) (base := w.heap.size) (ok := fun k_ => (((True ∧ some k_ ≠ (.slice Ao18 t160.length co18 : Value).ownBlock) ∧ some k_ ≠ (.slice Ao21 t163.length co21 : Value).ownBlock) ∧ some k_ ≠ (.slice Ao27 t169.length co27 : Value).ownBlock)) (n := t173.length) (c := co33) ?_).2.2; exact (by (with_reducible repeat (first | apply Kd.R_alloc | apply Kd.R_drewN | apply Kd.R_drew)); exact (Kd.R_mono (Kd.R_far (p := ⟨gb178, 0, none⟩) (Kd.R_types HO175.out BK178.out (by decide)) (fun _ hk => hk.2) (.slice Ao33 t173.length co33)) (fun _ h_ => h_.1)))); (case side2 => exact (Kd.R_reads' HO175.out).2.1); (case side3 => refine (Kd.R_reads' (e := 3) (base := w.heap.size) (ok := fun k_ => (((True ∧ some k_ ≠ (.slice Ao18 t160.length co18 : Value).ownBlock) ∧ some k_ ≠ (.slice Ao27 t169.length co27 : Value).ownBlock) ∧ some k_ ≠ (.slice Ao33 t173.length co33 : Value).ownBlock)) (n := t163.length) (c := co21) ?_).2.2; exact (by (with_reducible repeat (first | apply Kd.R_alloc | apply Kd.R_drewN | apply Kd.R_drew)); exact (Kd.R_mono (Kd.R_far (p := ⟨gb178, 0, none⟩) (Kd.R_types HO165.out BK178.out (by decide)) (fun _ hk => hk.2) (.slice Ao33 t173.length co33)) (fun _ h_ => h_.1)))); (case side4 => exact (Kd.R_reads' HO165.out).2.1); rintro e w48 ⟨rfl, hb⟩; refine ⟨_, rfl, ?_⟩; have n0_ := Aside0.mk (Kd.R_below (by (with_reducible repeat (first | apply Kd.R_alloc | apply Kd.R_drewN | apply Kd.R_drew)); exact (Kd.R_mono (Kd.R_far (p := ⟨gb178, 0, none⟩) (Kd.R_types HO162.out BK178.out (by decide)) (fun _ hk => hk.2) (.slice Ao33 t173.length co33)) (fun _ h_ => h_.1))) hb); have n1_ := Aside0.mk (Kd.R_below (by (with_reducible repeat (first | apply Kd.R_alloc | apply Kd.R_drewN | apply Kd.R_drew)); exact (Kd.R_mono (Kd.R_far (p := ⟨gb178, 0, none⟩) (Kd.R_types HO165.out BK178.out (by decide)) (fun _ hk => hk.2) (.slice Ao33 t173.length co33)) (fun _ h_ => h_.1))) hb); have n2_ := Aside0.mk (Kd.R_below (by (with_reducible repeat (first | apply Kd.R_alloc | apply Kd.R_drewN | apply Kd.R_drew)); exact (Kd.R_mono (Kd.R_far (p := ⟨gb178, 0, none⟩) (Kd.R_types HO171.out BK178.out (by decide)) (fun _ hk => hk.2) (.slice Ao33 t173.length co33)) (fun _ h_ => h_.1))) hb); have n3_ := Aside0.mk (Kd.R_below (by (with_reducible repeat (first | apply Kd.R_alloc | apply Kd.R_drewN | apply Kd.R_drew)); exact (Kd.R_mono (Kd.R_far (p := ⟨gb178, 0, none⟩) (Kd.R_types HO175.out BK178.out (by decide)) (fun _ hk => hk.2) (.slice Ao33 t173.length co33)) (fun _ h_ => h_.1))) hb); have n4_ := Aside0.mk (blk_below (g := gb158) (o := .cells #[.slice A0_0 l0_0.length c0_0] 33 (0, 0)) (by (with_reducible repeat (first | refine blk_drewN ?_ _ | refine blk_drew ?_ | refine blk_alloc ?_ _)); refine blk_far ?_ NB158_178.out _; (with_reducible repeat (first | refine blk_drewN ?_ _ | refine blk_drew ?_ | refine blk_alloc ?_ _)); exact BK158.out) hb); have n5_ := Aside0.mk (blk_below (g := gb168) (o := .cells #[.slice Ao21 t163.length co21] 36 (0, 0)) (by (with_reducible repeat (first | refine blk_drewN ?_ _ | refine blk_drew ?_ | refine blk_alloc ?_ _)); refine blk_far ?_ NB168_178.out _; (with_reducible repeat (first | refine blk_drewN ?_ _ | refine blk_drew ?_ | refine blk_alloc ?_ _)); exact BK168.out) hb); have n6_ := Aside0.mk (blk_below (g := gb172) (o := .cells #[.slice Ao27 t169.length co27] 36 (0, 0)) (by (with_reducible repeat (first | refine blk_drewN ?_ _ | refine blk_drew ?_ | refine blk_alloc ?_ _)); refine blk_far ?_ NB172_178.out _; (with_reducible repeat (first | refine blk_drewN ?_ _ | refine blk_drew ?_ | refine blk_alloc ?_ _)); exact BK172.out) hb); have n7_ := Aside0.mk (blk_below (g := gb178) (o := .cells #[.slice Ao33 t173.length co33] 36 (0, 0)) (by (with_reducible repeat (first | refine blk_drewN ?_ _ | refine blk_drew ?_ | refine blk_alloc ?_ _)); refine blk_put (cs := #[.slice none 0 0]) ?_ 0 _ rfl; (with_reducible repeat (first | refine blk_drewN ?_ _ | refine blk_drew ?_ | refine blk_alloc ?_ _)); exact BK178.out) hb); have n8_ := Aside0.mk (below_step (by repeat (first | (with_reducible first | exact HB.out | apply below_alloc | apply pw_below_drewN | apply below_drew1 | refine below_set ?_ GE158.out | refine below_set ?_ GE168.out | refine below_set ?_ GE172.out | refine below_set ?_ GE178.out) | exact HB.out)) hb); clear HO162; clear HO165; clear HO171; clear HO175; clear BK158; clear BK168; clear BK172; clear BK178; clear HB; have HO162 := n0_; have HO165 := n1_; have HO171 := n2_; have HO175 := n3_; have BK158 := n4_; have BK168 := n5_; have BK172 := n6_; have BK178 := n7_; have HB := n8_; clear n0_ n1_ n2_ n3_ n4_ n5_ n6_ n7_ n8_; (try clear hb); (try clear hb2); (try clear hk); (try clear hi)))
          go_meet
          case rel => exact ⟨_, ((t177 != t167)), (by first | rfl | (simp; done) | (simp [*]; done)), H', ⟨by first | omega | exact Nat.le_refl _⟩, ⟨by (with_reducible repeat (first | apply Kd.R_alloc | apply Kd.R_drewN | apply Kd.R_drew)); exact Kd.R_mono HO165.out (fun _ hk => ⟨hk.1.2, hk.2⟩)⟩, ⟨by (with_reducible repeat (first | apply Kd.R_alloc | apply Kd.R_drewN | apply Kd.R_drew)); exact Kd.R_mono HO171.out (fun _ hk => ⟨hk.1.2, hk.2⟩)⟩, ⟨by (with_reducible repeat (first | apply Kd.R_alloc | apply Kd.R_drewN | apply Kd.R_drew)); exact Kd.R_mono HO175.out (fun _ hk => ⟨hk.1.2, hk.2⟩)⟩, ⟨by (with_reducible repeat (first | refine blk_drewN ?_ _ | refine blk_drew ?_ | refine blk_alloc ?_ _)); exact BK158.out⟩, ⟨by (with_reducible repeat (first | refine blk_drewN ?_ _ | refine blk_drew ?_ | refine blk_alloc ?_ _)); exact BK168.out⟩, ⟨by (with_reducible repeat (first | refine blk_drewN ?_ _ | refine blk_drew ?_ | refine blk_alloc ?_ _)); exact BK172.out⟩, ⟨by (with_reducible repeat (first | refine blk_drewN ?_ _ | refine blk_drew ?_ | refine blk_alloc ?_ _)); exact BK178.out⟩, ⟨by repeat (first | (with_reducible first | exact HB.out | apply below_alloc | apply pw_below_drewN | apply below_drew1 | refine below_set ?_ GE158.out | refine below_set ?_ GE168.out | refine below_set ?_ GE172.out | refine below_set ?_ GE178.out) | exact HB.out)⟩⟩
        · rw [if_neg c40] at H
          have c40b0 : (t176 == t166) = false := beq_eq_false_iff_ne.mpr c40
          have c40b1 : (t176 != t166) = true := bne_iff_ne.mpr c40
          (first | rw [c40b0] | (simp only [i64_w, i32_w]; rw [c40b0]) | skip)
          have H' := Aside0.mk H
          clear H
          have hnb49 := NB178_158.out
          have hnc49 := NB158_178.out
          have hnb50 := NB178_168.out
          have hnc50 := NB168_178.out
          have hnb51 := NB178_172.out
          have hnc51 := NB172_178.out
          have hcz52_0 : w32.cell? ⟨gb178, 0, none⟩ = some (.slice none 0 0) := (blk_cell BK178.out 0).trans rfl
          have hfz52_0 := blk_frozen BK178.out 0
          have hnb53 := NB168_158.out
          have hnc53 := NB158_168.out
          have hnb54 := NB168_172.out
          have hnc54 := NB172_168.out
          have hcz55_0 : w32.cell? ⟨gb168, 0, none⟩ = some (.slice Ao21 t163.length co21) := (blk_cell BK168.out 0).trans rfl
          have hfz55_0 := blk_frozen BK168.out 0
          go_wp2_with (first | ((with_reducible refine gate_callee (f := 24) rfl ?_); refine goesL_ (some 43) rfl rfl Try.func24 (by kernel_rfl) rfl #[.agg #[.slice Ao33 t173.length co33], .agg #[.slice Ao21 t163.length co21]] rfl (by (try simp only [List.map_toArray, List.map_cons, List.map_nil]); first | done | rfl | (simp only [List.length_drop, List.length_take]; rfl)) ?_; (with_reducible refine (laws_eqTable.calls k _ _ t173 _ _ t163 true _ ?side1 ?side2 ?side3 ?side4 A38.out).mono ?_); (case side1 => refine (Kd.R_reads' (e := 3) (base := w.heap.size) (ok := fun k_ => (((True ∧ some k_ ≠ (.slice Ao18 t160.length co18 : Value).ownBlock) ∧ some k_ ≠ (.slice Ao21 t163.length co21 : Value).ownBlock) ∧ some k_ ≠ (.slice Ao27 t169.length co27 : Value).ownBlock)) (n := t173.length) (c := co33) ?_).2.2; exact (by (with_reducible repeat (first | apply Kd.R_alloc | apply Kd.R_drewN | apply Kd.R_drew)); exact (Kd.R_mono (Kd.R_far (p := ⟨gb178, 0, none⟩) (Kd.R_types HO175.out BK178.out (by decide)) (fun _ hk => hk.2) (.slice Ao33 t173.length co33)) (fun _ h_ => h_.1)))); (case side2 => exact (Kd.R_reads' HO175.out).2.1); (case side3 => refine (Kd.R_reads' (e := 3) (base := w.heap.size) (ok := fun k_ => (((True ∧ some k_ ≠ (.slice Ao18 t160.length co18 : Value).ownBlock) ∧ some k_ ≠ (.slice Ao27 t169.length co27 : Value).ownBlock) ∧ some k_ ≠ (.slice Ao33 t173.length co33 : Value).ownBlock)) (n := t163.length) (c := co21) ?_).2.2; exact (by (with_reducible repeat (first | apply Kd.R_alloc | apply Kd.R_drewN | apply Kd.R_drew)); exact (Kd.R_mono (Kd.R_far (p := ⟨gb178, 0, none⟩) (Kd.R_types HO165.out BK178.out (by decide)) (fun _ hk => hk.2) (.slice Ao33 t173.length co33)) (fun _ h_ => h_.1)))); (case side4 => exact (Kd.R_reads' HO165.out).2.1); rintro e w56 ⟨rfl, hb⟩; refine ⟨_, rfl, ?_⟩; have n0_ := Aside0.mk (Kd.R_below (by (with_reducible repeat (first | apply Kd.R_alloc | apply Kd.R_drewN | apply Kd.R_drew)); exact (Kd.R_mono (Kd.R_far (p := ⟨gb178, 0, none⟩) (Kd.R_types HO162.out BK178.out (by decide)) (fun _ hk => hk.2) (.slice Ao33 t173.length co33)) (fun _ h_ => h_.1))) hb); have n1_ := Aside0.mk (Kd.R_below (by (with_reducible repeat (first | apply Kd.R_alloc | apply Kd.R_drewN | apply Kd.R_drew)); exact (Kd.R_mono (Kd.R_far (p := ⟨gb178, 0, none⟩) (Kd.R_types HO165.out BK178.out (by decide)) (fun _ hk => hk.2) (.slice Ao33 t173.length co33)) (fun _ h_ => h_.1))) hb); have n2_ := Aside0.mk (Kd.R_below (by (with_reducible repeat (first | apply Kd.R_alloc | apply Kd.R_drewN | apply Kd.R_drew)); exact (Kd.R_mono (Kd.R_far (p := ⟨gb178, 0, none⟩) (Kd.R_types HO171.out BK178.out (by decide)) (fun _ hk => hk.2) (.slice Ao33 t173.length co33)) (fun _ h_ => h_.1))) hb); have n3_ := Aside0.mk (Kd.R_below (by (with_reducible repeat (first | apply Kd.R_alloc | apply Kd.R_drewN | apply Kd.R_drew)); exact (Kd.R_mono (Kd.R_far (p := ⟨gb178, 0, none⟩) (Kd.R_types HO175.out BK178.out (by decide)) (fun _ hk => hk.2) (.slice Ao33 t173.length co33)) (fun _ h_ => h_.1))) hb); have n4_ := Aside0.mk (blk_below (g := gb158) (o := .cells #[.slice A0_0 l0_0.length c0_0] 33 (0, 0)) (by (with_reducible repeat (first | refine blk_drewN ?_ _ | refine blk_drew ?_ | refine blk_alloc ?_ _)); refine blk_far ?_ NB158_178.out _; (with_reducible repeat (first | refine blk_drewN ?_ _ | refine blk_drew ?_ | refine blk_alloc ?_ _)); exact BK158.out) hb); have n5_ := Aside0.mk (blk_below (g := gb168) (o := .cells #[.slice Ao21 t163.length co21] 36 (0, 0)) (by (with_reducible repeat (first | refine blk_drewN ?_ _ | refine blk_drew ?_ | refine blk_alloc ?_ _)); refine blk_far ?_ NB168_178.out _; (with_reducible repeat (first | refine blk_drewN ?_ _ | refine blk_drew ?_ | refine blk_alloc ?_ _)); exact BK168.out) hb); have n6_ := Aside0.mk (blk_below (g := gb172) (o := .cells #[.slice Ao27 t169.length co27] 36 (0, 0)) (by (with_reducible repeat (first | refine blk_drewN ?_ _ | refine blk_drew ?_ | refine blk_alloc ?_ _)); refine blk_far ?_ NB172_178.out _; (with_reducible repeat (first | refine blk_drewN ?_ _ | refine blk_drew ?_ | refine blk_alloc ?_ _)); exact BK172.out) hb); have n7_ := Aside0.mk (blk_below (g := gb178) (o := .cells #[.slice Ao33 t173.length co33] 36 (0, 0)) (by (with_reducible repeat (first | refine blk_drewN ?_ _ | refine blk_drew ?_ | refine blk_alloc ?_ _)); refine blk_put (cs := #[.slice none 0 0]) ?_ 0 _ rfl; (with_reducible repeat (first | refine blk_drewN ?_ _ | refine blk_drew ?_ | refine blk_alloc ?_ _)); exact BK178.out) hb); have n8_ := Aside0.mk (below_step (by repeat (first | (with_reducible first | exact HB.out | apply below_alloc | apply pw_below_drewN | apply below_drew1 | refine below_set ?_ GE158.out | refine below_set ?_ GE168.out | refine below_set ?_ GE172.out | refine below_set ?_ GE178.out) | exact HB.out)) hb); clear HO162; clear HO165; clear HO171; clear HO175; clear BK158; clear BK168; clear BK172; clear BK178; clear HB; have HO162 := n0_; have HO165 := n1_; have HO171 := n2_; have HO175 := n3_; have BK158 := n4_; have BK168 := n5_; have BK172 := n6_; have BK178 := n7_; have HB := n8_; clear n0_ n1_ n2_ n3_ n4_ n5_ n6_ n7_ n8_; (try clear hb); (try clear hb2); (try clear hk); (try clear hi)))
          go_meet
          case rel => exact ⟨_, (true), (by first | rfl | (simp; done) | (simp [*]; done)), H', ⟨by first | omega | exact Nat.le_refl _⟩, ⟨by (with_reducible repeat (first | apply Kd.R_alloc | apply Kd.R_drewN | apply Kd.R_drew)); exact Kd.R_mono HO165.out (fun _ hk => ⟨hk.1.2, hk.2⟩)⟩, ⟨by (with_reducible repeat (first | apply Kd.R_alloc | apply Kd.R_drewN | apply Kd.R_drew)); exact Kd.R_mono HO171.out (fun _ hk => ⟨hk.1.2, hk.2⟩)⟩, ⟨by (with_reducible repeat (first | apply Kd.R_alloc | apply Kd.R_drewN | apply Kd.R_drew)); exact Kd.R_mono HO175.out (fun _ hk => ⟨hk.1.2, hk.2⟩)⟩, ⟨by (with_reducible repeat (first | refine blk_drewN ?_ _ | refine blk_drew ?_ | refine blk_alloc ?_ _)); exact BK158.out⟩, ⟨by (with_reducible repeat (first | refine blk_drewN ?_ _ | refine blk_drew ?_ | refine blk_alloc ?_ _)); exact BK168.out⟩, ⟨by (with_reducible repeat (first | refine blk_drewN ?_ _ | refine blk_drew ?_ | refine blk_alloc ?_ _)); exact BK172.out⟩, ⟨by (with_reducible repeat (first | refine blk_drewN ?_ _ | refine blk_drew ?_ | refine blk_alloc ?_ _)); exact BK178.out⟩, ⟨by repeat (first | (with_reducible first | exact HB.out | apply below_alloc | apply pw_below_drewN | apply below_drew1 | refine below_set ?_ GE158.out | refine below_set ?_ GE168.out | refine below_set ?_ GE172.out | refine below_set ?_ GE178.out) | exact HB.out)⟩⟩
      · replace c39 := Bool.eq_false_iff.mpr c39
        subst c39
        have H1 : (laws_FnExactTableAdd.j0 k a1 t166 t167 t176 t177 true l0_0 t163 t169 t173) = some r := by rw [if_neg (show ¬ (false = true) by decide)] at H; exact H
        clear H
        have H := H1
        clear H1
        have H' := Aside0.mk H
        clear H
        have hnb57 := NB178_158.out
        have hnc57 := NB158_178.out
        have hnb58 := NB178_168.out
        have hnc58 := NB168_178.out
        have hnb59 := NB178_172.out
        have hnc59 := NB172_178.out
        have hcz60_0 : w32.cell? ⟨gb178, 0, none⟩ = some (.slice none 0 0) := (blk_cell BK178.out 0).trans rfl
        have hfz60_0 := blk_frozen BK178.out 0
        have hnb61 := NB168_158.out
        have hnc61 := NB158_168.out
        have hnb62 := NB168_172.out
        have hnc62 := NB172_168.out
        have hcz63_0 : w32.cell? ⟨gb168, 0, none⟩ = some (.slice Ao21 t163.length co21) := (blk_cell BK168.out 0).trans rfl
        have hfz63_0 := blk_frozen BK168.out 0
        go_wp2_with (first | ((with_reducible refine gate_callee (f := 24) rfl ?_); refine goesL_ (some 43) rfl rfl Try.func24 (by kernel_rfl) rfl #[.agg #[.slice Ao33 t173.length co33], .agg #[.slice Ao21 t163.length co21]] rfl (by (try simp only [List.map_toArray, List.map_cons, List.map_nil]); first | done | rfl | (simp only [List.length_drop, List.length_take]; rfl)) ?_; (with_reducible refine (laws_eqTable.calls k _ _ t173 _ _ t163 false _ ?side1 ?side2 ?side3 ?side4 A38.out).mono ?_); (case side1 => refine (Kd.R_reads' (e := 3) (base := w.heap.size) (ok := fun k_ => (((True ∧ some k_ ≠ (.slice Ao18 t160.length co18 : Value).ownBlock) ∧ some k_ ≠ (.slice Ao21 t163.length co21 : Value).ownBlock) ∧ some k_ ≠ (.slice Ao27 t169.length co27 : Value).ownBlock)) (n := t173.length) (c := co33) ?_).2.2; exact (by (with_reducible repeat (first | apply Kd.R_alloc | apply Kd.R_drewN | apply Kd.R_drew)); exact (Kd.R_mono (Kd.R_far (p := ⟨gb178, 0, none⟩) (Kd.R_types HO175.out BK178.out (by decide)) (fun _ hk => hk.2) (.slice Ao33 t173.length co33)) (fun _ h_ => h_.1)))); (case side2 => exact (Kd.R_reads' HO175.out).2.1); (case side3 => refine (Kd.R_reads' (e := 3) (base := w.heap.size) (ok := fun k_ => (((True ∧ some k_ ≠ (.slice Ao18 t160.length co18 : Value).ownBlock) ∧ some k_ ≠ (.slice Ao27 t169.length co27 : Value).ownBlock) ∧ some k_ ≠ (.slice Ao33 t173.length co33 : Value).ownBlock)) (n := t163.length) (c := co21) ?_).2.2; exact (by (with_reducible repeat (first | apply Kd.R_alloc | apply Kd.R_drewN | apply Kd.R_drew)); exact (Kd.R_mono (Kd.R_far (p := ⟨gb178, 0, none⟩) (Kd.R_types HO165.out BK178.out (by decide)) (fun _ hk => hk.2) (.slice Ao33 t173.length co33)) (fun _ h_ => h_.1)))); (case side4 => exact (Kd.R_reads' HO165.out).2.1); rintro e w64 ⟨rfl, hb⟩; refine ⟨_, rfl, ?_⟩; have n0_ := Aside0.mk (Kd.R_below (by (with_reducible repeat (first | apply Kd.R_alloc | apply Kd.R_drewN | apply Kd.R_drew)); exact (Kd.R_mono (Kd.R_far (p := ⟨gb178, 0, none⟩) (Kd.R_types HO162.out BK178.out (by decide)) (fun _ hk => hk.2) (.slice Ao33 t173.length co33)) (fun _ h_ => h_.1))) hb); have n1_ := Aside0.mk (Kd.R_below (by (with_reducible repeat (first | apply Kd.R_alloc | apply Kd.R_drewN | apply Kd.R_drew)); exact (Kd.R_mono (Kd.R_far (p := ⟨gb178, 0, none⟩) (Kd.R_types HO165.out BK178.out (by decide)) (fun _ hk => hk.2) (.slice Ao33 t173.length co33)) (fun _ h_ => h_.1))) hb); have n2_ := Aside0.mk (Kd.R_below (by (with_reducible repeat (first | apply Kd.R_alloc | apply Kd.R_drewN | apply Kd.R_drew)); exact (Kd.R_mono (Kd.R_far (p := ⟨gb178, 0, none⟩) (Kd.R_types HO171.out BK178.out (by decide)) (fun _ hk => hk.2) (.slice Ao33 t173.length co33)) (fun _ h_ => h_.1))) hb); have n3_ := Aside0.mk (Kd.R_below (by (with_reducible repeat (first | apply Kd.R_alloc | apply Kd.R_drewN | apply Kd.R_drew)); exact (Kd.R_mono (Kd.R_far (p := ⟨gb178, 0, none⟩) (Kd.R_types HO175.out BK178.out (by decide)) (fun _ hk => hk.2) (.slice Ao33 t173.length co33)) (fun _ h_ => h_.1))) hb); have n4_ := Aside0.mk (blk_below (g := gb158) (o := .cells #[.slice A0_0 l0_0.length c0_0] 33 (0, 0)) (by (with_reducible repeat (first | refine blk_drewN ?_ _ | refine blk_drew ?_ | refine blk_alloc ?_ _)); refine blk_far ?_ NB158_178.out _; (with_reducible repeat (first | refine blk_drewN ?_ _ | refine blk_drew ?_ | refine blk_alloc ?_ _)); exact BK158.out) hb); have n5_ := Aside0.mk (blk_below (g := gb168) (o := .cells #[.slice Ao21 t163.length co21] 36 (0, 0)) (by (with_reducible repeat (first | refine blk_drewN ?_ _ | refine blk_drew ?_ | refine blk_alloc ?_ _)); refine blk_far ?_ NB168_178.out _; (with_reducible repeat (first | refine blk_drewN ?_ _ | refine blk_drew ?_ | refine blk_alloc ?_ _)); exact BK168.out) hb); have n6_ := Aside0.mk (blk_below (g := gb172) (o := .cells #[.slice Ao27 t169.length co27] 36 (0, 0)) (by (with_reducible repeat (first | refine blk_drewN ?_ _ | refine blk_drew ?_ | refine blk_alloc ?_ _)); refine blk_far ?_ NB172_178.out _; (with_reducible repeat (first | refine blk_drewN ?_ _ | refine blk_drew ?_ | refine blk_alloc ?_ _)); exact BK172.out) hb); have n7_ := Aside0.mk (blk_below (g := gb178) (o := .cells #[.slice Ao33 t173.length co33] 36 (0, 0)) (by (with_reducible repeat (first | refine blk_drewN ?_ _ | refine blk_drew ?_ | refine blk_alloc ?_ _)); refine blk_put (cs := #[.slice none 0 0]) ?_ 0 _ rfl; (with_reducible repeat (first | refine blk_drewN ?_ _ | refine blk_drew ?_ | refine blk_alloc ?_ _)); exact BK178.out) hb); have n8_ := Aside0.mk (below_step (by repeat (first | (with_reducible first | exact HB.out | apply below_alloc | apply pw_below_drewN | apply below_drew1 | refine below_set ?_ GE158.out | refine below_set ?_ GE168.out | refine below_set ?_ GE172.out | refine below_set ?_ GE178.out) | exact HB.out)) hb); clear HO162; clear HO165; clear HO171; clear HO175; clear BK158; clear BK168; clear BK172; clear BK178; clear HB; have HO162 := n0_; have HO165 := n1_; have HO171 := n2_; have HO175 := n3_; have BK158 := n4_; have BK168 := n5_; have BK172 := n6_; have BK178 := n7_; have HB := n8_; clear n0_ n1_ n2_ n3_ n4_ n5_ n6_ n7_ n8_; (try clear hb); (try clear hb2); (try clear hk); (try clear hi)))
        go_meet
        case rel => exact ⟨_, (true), (by first | rfl | (simp; done) | (simp [*]; done)), H', ⟨by first | omega | exact Nat.le_refl _⟩, ⟨by (with_reducible repeat (first | apply Kd.R_alloc | apply Kd.R_drewN | apply Kd.R_drew)); exact Kd.R_mono HO165.out (fun _ hk => ⟨hk.1.2, hk.2⟩)⟩, ⟨by (with_reducible repeat (first | apply Kd.R_alloc | apply Kd.R_drewN | apply Kd.R_drew)); exact Kd.R_mono HO171.out (fun _ hk => ⟨hk.1.2, hk.2⟩)⟩, ⟨by (with_reducible repeat (first | apply Kd.R_alloc | apply Kd.R_drewN | apply Kd.R_drew)); exact Kd.R_mono HO175.out (fun _ hk => ⟨hk.1.2, hk.2⟩)⟩, ⟨by (with_reducible repeat (first | refine blk_drewN ?_ _ | refine blk_drew ?_ | refine blk_alloc ?_ _)); exact BK158.out⟩, ⟨by (with_reducible repeat (first | refine blk_drewN ?_ _ | refine blk_drew ?_ | refine blk_alloc ?_ _)); exact BK168.out⟩, ⟨by (with_reducible repeat (first | refine blk_drewN ?_ _ | refine blk_drew ?_ | refine blk_alloc ?_ _)); exact BK172.out⟩, ⟨by (with_reducible repeat (first | refine blk_drewN ?_ _ | refine blk_drew ?_ | refine blk_alloc ?_ _)); exact BK178.out⟩, ⟨by repeat (first | (with_reducible first | exact HB.out | apply below_alloc | apply pw_below_drewN | apply below_drew1 | refine below_set ?_ GE158.out | refine below_set ?_ GE168.out | refine below_set ?_ GE172.out | refine below_set ?_ GE178.out) | exact HB.out)⟩⟩
    case rest =>
      clear HC12
      try clear c2
      try clear p2
      try clear c3
      try clear c4
      try clear c4b0
      try clear c5
      try clear c6
      try clear c9
      try clear c20
      try clear c22
      try clear c24
      try clear c28
      try clear c29
      try clear c30
      try clear c34
      try clear c35
      try clear c36
      try clear c39
      try clear c40
      try clear c40b0
      try clear c40b1
      try clear c41
      try clear c42
      try clear c43
      try clear c45
      try clear c46
      try clear c49
      try clear c50
      try clear c51
      try clear c53
      try clear c54
      try clear c57
      try clear c58
      try clear c59
      try clear c61
      try clear c62
      try clear hcz14_0
      try clear hcz16_0
      try clear hcz23_0
      try clear hcz24_0
      try clear hcz30_0
      try clear hcz37_0
      try clear hcz44_0
      try clear hcz47_0
      try clear hcz52_0
      try clear hcz55_0
      try clear hcz60_0
      try clear hcz63_0
      try clear hcz6_0
      try clear hfz14_0
      try clear hfz16_0
      try clear hfz23_0
      try clear hfz24_0
      try clear hfz30_0
      try clear hfz37_0
      try clear hfz44_0
      try clear hfz47_0
      try clear hfz52_0
      try clear hfz55_0
      try clear hfz60_0
      try clear hfz63_0
      try clear hfz6_0
      obtain ⟨kq, x54_11, rfl, HA, HJ11, HO_169000, HO_173000, HO_179000, BK158, BK168, BK172, BK178, HB⟩ := hcut
      cases kq with
      | zero => exact absurd HA.out (by simp [laws_FnExactTableAdd.j0])
      | succ kj11 =>
        have H := HA.out
        clear HA
        simp only [laws_FnExactTableAdd.j0] at H
        by_cases c65 : x54_11 = true
        · subst c65
          have H1 : (some false) = some r := by rw [if_pos rfl] at H; exact H
          clear H
          have H := H1
          clear H1
          obtain rfl := Option.some.inj H
          go_wp2
          go_ret
          exact ⟨by first | rfl | (simp [errW_none, errW_some] <;> rfl) | (simp [*, errW_none, errW_some] <;> rfl), by repeat (first | (with_reducible first | exact HB.out | apply below_alloc | apply pw_below_drewN | apply below_drew1 | refine below_set ?_ GE158.out | refine below_set ?_ GE168.out | refine below_set ?_ GE172.out | refine below_set ?_ GE178.out) | exact HB.out)⟩
        · replace c65 := Bool.eq_false_iff.mpr c65
          subst c65
          have H1 : ((laws_toTable.f kj11 l0_0).bind fun t180 => ((laws_eqTable.f kj11 t169 t180).bind fun t183 => (if t183 = true then ((laws_markTable.f kj11 t169 1).bind fun bt184 => (if bt184.1 < 0 then (laws_FnExactTableAdd.j1 kj11 a1 t166 t167 true l0_0 t163 t173) else ((laws_eqTable.f kj11 t173 t163).bind fun t186 => (if t186 = true then (if t176 = t166 then (laws_FnExactTableAdd.j1 kj11 a1 t166 t167 (t177 != t167) l0_0 t163 t173) else (laws_FnExactTableAdd.j1 kj11 a1 t166 t167 true l0_0 t163 t173)) else (laws_FnExactTableAdd.j1 kj11 a1 t166 t167 true l0_0 t163 t173))))) else (some false)))) = some r := by rw [if_neg (show ¬ (false = true) by decide)] at H; exact H
          clear H
          have H := H1
          clear H1
          replace H := Option.bind_eq_some_iff.mp H
          obtain ⟨t180, A660, H⟩ := H
          replace H : ((laws_eqTable.f kj11 t169 t180).bind fun t183 => (if t183 = true then ((laws_markTable.f kj11 t169 1).bind fun bt184 => (if bt184.1 < 0 then (laws_FnExactTableAdd.j1 kj11 a1 t166 t167 true l0_0 t163 t173) else ((laws_eqTable.f kj11 t173 t163).bind fun t186 => (if t186 = true then (if t176 = t166 then (laws_FnExactTableAdd.j1 kj11 a1 t166 t167 (t177 != t167) l0_0 t163 t173) else (laws_FnExactTableAdd.j1 kj11 a1 t166 t167 true l0_0 t163 t173)) else (laws_FnExactTableAdd.j1 kj11 a1 t166 t167 true l0_0 t163 t173))))) else (some false))) = some r := H
          have A66 := Aside0.mk A660
          clear A660
          replace H := Option.bind_eq_some_iff.mp H
          obtain ⟨t183, A670, H⟩ := H
          replace H : (if t183 = true then ((laws_markTable.f kj11 t169 1).bind fun bt184 => (if bt184.1 < 0 then (laws_FnExactTableAdd.j1 kj11 a1 t166 t167 true l0_0 t163 t173) else ((laws_eqTable.f kj11 t173 t163).bind fun t186 => (if t186 = true then (if t176 = t166 then (laws_FnExactTableAdd.j1 kj11 a1 t166 t167 (t177 != t167) l0_0 t163 t173) else (laws_FnExactTableAdd.j1 kj11 a1 t166 t167 true l0_0 t163 t173)) else (laws_FnExactTableAdd.j1 kj11 a1 t166 t167 true l0_0 t163 t173))))) else (some false)) = some r := H
          have A67 := Aside0.mk A670
          clear A670
          by_cases c68 : t183 = true
          · subst c68
            have H1 : ((laws_markTable.f kj11 t169 1).bind fun bt184 => (if bt184.1 < 0 then (laws_FnExactTableAdd.j1 kj11 a1 t166 t167 true l0_0 t163 t173) else ((laws_eqTable.f kj11 t173 t163).bind fun t186 => (if t186 = true then (if t176 = t166 then (laws_FnExactTableAdd.j1 kj11 a1 t166 t167 (t177 != t167) l0_0 t163 t173) else (laws_FnExactTableAdd.j1 kj11 a1 t166 t167 true l0_0 t163 t173)) else (laws_FnExactTableAdd.j1 kj11 a1 t166 t167 true l0_0 t163 t173))))) = some r := by rw [if_pos rfl] at H; exact H
            clear H
            have H := H1
            clear H1
            replace H := Option.bind_eq_some_iff.mp H
            obtain ⟨⟨t184, t185⟩, A690, H⟩ := H
            replace H : (if t184 < 0 then (laws_FnExactTableAdd.j1 kj11 a1 t166 t167 true l0_0 t163 t173) else ((laws_eqTable.f kj11 t173 t163).bind fun t186 => (if t186 = true then (if t176 = t166 then (laws_FnExactTableAdd.j1 kj11 a1 t166 t167 (t177 != t167) l0_0 t163 t173) else (laws_FnExactTableAdd.j1 kj11 a1 t166 t167 true l0_0 t163 t173)) else (laws_FnExactTableAdd.j1 kj11 a1 t166 t167 true l0_0 t163 t173)))) = some r := H
            have A69 := Aside0.mk A690
            clear A690
            have HC70 := Aside0.mk H
            clear H
            try go_wp2
            have n0_ := Aside0.mk (Kd.R_drew HO_169000.out)
            have n1_ := Aside0.mk (Kd.R_drew HO_173000.out)
            have n2_ := Aside0.mk (Kd.R_drew HO_179000.out)
            have n3_ := Aside0.mk (blk_drew BK158.out)
            have n4_ := Aside0.mk (blk_drew BK168.out)
            have n5_ := Aside0.mk (blk_drew BK172.out)
            have n6_ := Aside0.mk (blk_drew BK178.out)
            have n7_ := Aside0.mk (below_drew1 HB.out)
            clear HO_169000
            clear HO_173000
            clear HO_179000
            clear BK158
            clear BK168
            clear BK172
            clear BK178
            clear HB
            have HO_169000 := n0_
            have HO_173000 := n1_
            have HO_179000 := n2_
            have BK158 := n3_
            have BK168 := n4_
            have BK172 := n5_
            have BK178 := n6_
            have HB := n7_
            clear n0_ n1_ n2_ n3_ n4_ n5_ n6_ n7_
            refine start_ (n := 5) (S := fun w' => w'.cell? ⟨gb172, 0, none⟩ = some (.slice Ao27 t169.length co27) ∧ w'.cell? ⟨gb158, 0, none⟩ = some (.slice A0_0 l0_0.length c0_0)) (ds := []) #[false, false, false, false, false] (by kernel_rfl) rfl rfl ⟨(blk_cell BK172.out 0).trans rfl, (blk_cell BK158.out 0).trans rfl⟩ (fun hHeld => ?_)
            generalize wc.drew = w71 at HO_169000 HO_173000 HO_179000 BK158 BK168 BK172 BK178 HB hHeld ⊢
            refine take_ (i := 0) (N := some 55) (v := ?_) (a' := ?_) #[true, false, false, false, false] rfl rfl (by kernel_rfl) (fun _ _ _ h => h) (Or.inl ⟨by rfl, ?_⟩) hHeld ?_ ?_
            rotate_left
            · rintro w' ⟨s0, s1⟩
              go_simp
              with_reducible rfl
            rotate_left
            · simp only [Act.put, List.setIfInBounds_toArray, List.set_cons_zero, List.set_cons_succ, i64_w, i32_w]
              rfl
            refine take_ (i := 1) (N := some 56) (v := ?_) (a' := ?_) #[true, true, false, false, false] rfl rfl (by kernel_rfl) (fun _ _ _ h => h) (Or.inl ⟨by rfl, ?_⟩) hHeld ?_ ?_
            rotate_left
            · rintro w' ⟨s0, s1⟩
              go_simp
              with_reducible rfl
            rotate_left
            · simp only [Act.put, List.setIfInBounds_toArray, List.set_cons_zero, List.set_cons_succ, i64_w, i32_w]
              rfl
            refine one_ (i := 2) (N := some 57) #[true, true, true, false, false] rfl rfl (by kernel_rfl) (by decide) (fun K hK => ?_)
            refine goes_ Try.func22 (by kernel_rfl) rfl #[.agg #[.slice A0_0 l0_0.length c0_0]] (by rfl) rfl rfl (by (try simp only [List.map_toArray, List.map_cons, List.map_nil]); first | done | rfl | (simp only [List.length_drop, List.length_take]; rfl)) ?_
            with_reducible refine (laws_toTable.calls kj11 _ _ l0_0 t180 _ ?side1 ?side2 A66.out).mono ?_
            (case side1 => repeat (first | exact (Kd.C_below HR0_0.out HB.out) | (with_reducible refine Kd.C_alloc ?_ _) | (with_reducible refine Kd.C_drewN ?_ _) | (with_reducible refine Kd.C_drew ?_)))
            (case side2 => exact HC0_0.out)
            rintro e w72 ⟨v181, rfl, ho0, hb⟩
            refine ⟨_, rfl, ?_⟩
            have n0_ := Aside0.mk (Kd.R_elder' (by (with_reducible repeat (first | apply Kd.R_alloc | apply Kd.R_drewN | apply Kd.R_drew)); exact HO_169000.out) (Kd.R_base ho0) hb)
            have n1_ := Aside0.mk (Kd.R_elder' (by (with_reducible repeat (first | apply Kd.R_alloc | apply Kd.R_drewN | apply Kd.R_drew)); exact HO_173000.out) (Kd.R_base ho0) hb)
            have n2_ := Aside0.mk (Kd.R_elder' (by (with_reducible repeat (first | apply Kd.R_alloc | apply Kd.R_drewN | apply Kd.R_drew)); exact HO_179000.out) (Kd.R_base ho0) hb)
            have n3_ := Aside0.mk (Kd.R_lower (Kd.R_new' (Kd.R_new' (Kd.R_new' ho0 (Kd.R_lt (by (with_reducible repeat (first | apply Kd.R_alloc | apply Kd.R_drewN | apply Kd.R_drew)); exact HO_169000.out))) (Kd.R_lt (by (with_reducible repeat (first | apply Kd.R_alloc | apply Kd.R_drewN | apply Kd.R_drew)); exact HO_173000.out))) (Kd.R_lt (by (with_reducible repeat (first | apply Kd.R_alloc | apply Kd.R_drewN | apply Kd.R_drew)); exact HO_179000.out))) (below_size (by repeat (first | (with_reducible first | exact HB.out | apply below_alloc | apply pw_below_drewN | apply below_drew1 | refine below_set ?_ GE158.out | refine below_set ?_ GE168.out | refine below_set ?_ GE172.out | refine below_set ?_ GE178.out) | exact HB.out))))
            have n4_ := Aside0.mk (blk_below (g := gb158) (o := .cells #[.slice A0_0 l0_0.length c0_0] 33 (0, 0)) (by (with_reducible repeat (first | refine blk_drewN ?_ _ | refine blk_drew ?_ | refine blk_alloc ?_ _)); exact BK158.out) hb)
            have n5_ := Aside0.mk (blk_below (g := gb168) (o := .cells #[.slice Ao21 t163.length co21] 36 (0, 0)) (by (with_reducible repeat (first | refine blk_drewN ?_ _ | refine blk_drew ?_ | refine blk_alloc ?_ _)); exact BK168.out) hb)
            have n6_ := Aside0.mk (blk_below (g := gb172) (o := .cells #[.slice Ao27 t169.length co27] 36 (0, 0)) (by (with_reducible repeat (first | refine blk_drewN ?_ _ | refine blk_drew ?_ | refine blk_alloc ?_ _)); exact BK172.out) hb)
            have n7_ := Aside0.mk (blk_below (g := gb178) (o := .cells #[.slice Ao33 t173.length co33] 36 (0, 0)) (by (with_reducible repeat (first | refine blk_drewN ?_ _ | refine blk_drew ?_ | refine blk_alloc ?_ _)); exact BK178.out) hb)
            have n8_ := Aside0.mk (below_step (by repeat (first | (with_reducible first | exact HB.out | apply below_alloc | apply pw_below_drewN | apply below_drew1 | refine below_set ?_ GE158.out | refine below_set ?_ GE168.out | refine below_set ?_ GE172.out | refine below_set ?_ GE178.out) | exact HB.out)) hb)
            clear HO_169000
            clear HO_173000
            clear HO_179000
            clear BK158
            clear BK168
            clear BK172
            clear BK178
            clear HB
            have HO_169000 := n0_
            have HO_173000 := n1_
            have HO_179000 := n2_
            have HO182 := n3_
            have BK158 := n4_
            have BK168 := n5_
            have BK172 := n6_
            have BK178 := n7_
            have HB := n8_
            clear n0_ n1_ n2_ n3_ n4_ n5_ n6_ n7_ n8_
            (try clear hb)
            (try clear hb2)
            (try clear hk)
            (try clear hi)
            (try clear ho0)
            obtain ⟨Ao73, co73, eo73⟩ := Kd.R_slice HO182.out
            (first | subst eo73 | (injection eo73 with f1_ f2_ f3_; have f4_ := f1_.symm; have f5_ := f3_.symm; clear f1_ f2_ f3_; subst f4_; subst f5_))
            refine hK.out _ _ ⟨(blk_cell BK172.out 0).trans rfl, (blk_cell BK158.out 0).trans rfl⟩ (fun hHeld => ?_)
            clear hK K
            refine norm_ (a' := ?_) ?_ ?_
            rotate_left
            · show Act.put _ (some 57) _ = _
              simp only [Act.put, List.setIfInBounds_toArray, List.set_cons_zero, List.set_cons_succ, i64_w, i32_w]
              rfl
            refine one_ (i := 3) (N := some 58) #[true, true, true, true, false] rfl rfl (by kernel_rfl) (by decide) (fun K hK => ?_)
            refine goes_ Try.func24 (by kernel_rfl) rfl #[.agg #[.slice Ao27 t169.length co27], .agg #[.slice Ao73 t180.length co73]] (by rfl) rfl rfl (by (try simp only [List.map_toArray, List.map_cons, List.map_nil]); first | done | rfl | (simp only [List.length_drop, List.length_take]; rfl)) ?_
            with_reducible refine (laws_eqTable.calls kj11 _ _ t169 _ _ t180 true _ ?side1 ?side2 ?side3 ?side4 A67.out).mono ?_
            (case side1 => repeat (first | exact (Kd.R_reads' HO_173000.out).2.2 | (with_reducible refine Kd.C_alloc ?_ _) | (with_reducible refine Kd.C_drewN ?_ _) | (with_reducible refine Kd.C_drew ?_)))
            (case side2 => exact (Kd.R_reads' HO_173000.out).2.1)
            (case side3 => repeat (first | exact (Kd.R_reads' HO182.out).2.2 | (with_reducible refine Kd.C_alloc ?_ _) | (with_reducible refine Kd.C_drewN ?_ _) | (with_reducible refine Kd.C_drew ?_)))
            (case side4 => exact (Kd.R_reads' HO182.out).2.1)
            rintro e w74 ⟨rfl, hb⟩
            refine ⟨_, rfl, ?_⟩
            have n0_ := Aside0.mk (Kd.R_below (by (with_reducible repeat (first | apply Kd.R_alloc | apply Kd.R_drewN | apply Kd.R_drew)); exact HO_169000.out) hb)
            have n1_ := Aside0.mk (Kd.R_below (by (with_reducible repeat (first | apply Kd.R_alloc | apply Kd.R_drewN | apply Kd.R_drew)); exact HO_173000.out) hb)
            have n2_ := Aside0.mk (Kd.R_below (by (with_reducible repeat (first | apply Kd.R_alloc | apply Kd.R_drewN | apply Kd.R_drew)); exact HO_179000.out) hb)
            have n3_ := Aside0.mk (Kd.R_below (by (with_reducible repeat (first | apply Kd.R_alloc | apply Kd.R_drewN | apply Kd.R_drew)); exact HO182.out) hb)
            have n4_ := Aside0.mk (blk_below (g := gb158) (o := .cells #[.slice A0_0 l0_0.length c0_0] 33 (0, 0)) (by (with_reducible repeat (first | refine blk_drewN ?_ _ | refine blk_drew ?_ | refine blk_alloc ?_ _)); exact BK158.out) hb)
            have n5_ := Aside0.mk (blk_below (g := gb168) (o := .cells #[.slice Ao21 t163.length co21] 36 (0, 0)) (by (with_reducible repeat (first | refine blk_drewN ?_ _ | refine blk_drew ?_ | refine blk_alloc ?_ _)); exact BK168.out) hb)
            have n6_ := Aside0.mk (blk_below (g := gb172) (o := .cells #[.slice Ao27 t169.length co27] 36 (0, 0)) (by (with_reducible repeat (first | refine blk_drewN ?_ _ | refine blk_drew ?_ | refine blk_alloc ?_ _)); exact BK172.out) hb)
            have n7_ := Aside0.mk (blk_below (g := gb178) (o := .cells #[.slice Ao33 t173.length co33] 36 (0, 0)) (by (with_reducible repeat (first | refine blk_drewN ?_ _ | refine blk_drew ?_ | refine blk_alloc ?_ _)); exact BK178.out) hb)
            have n8_ := Aside0.mk (below_step (by repeat (first | (with_reducible first | exact HB.out | apply below_alloc | apply pw_below_drewN | apply below_drew1 | refine below_set ?_ GE158.out | refine below_set ?_ GE168.out | refine below_set ?_ GE172.out | refine below_set ?_ GE178.out) | exact HB.out)) hb)
            clear HO_169000
            clear HO_173000
            clear HO_179000
            clear HO182
            clear BK158
            clear BK168
            clear BK172
            clear BK178
            clear HB
            have HO_169000 := n0_
            have HO_173000 := n1_
            have HO_179000 := n2_
            have HO182 := n3_
            have BK158 := n4_
            have BK168 := n5_
            have BK172 := n6_
            have BK178 := n7_
            have HB := n8_
            clear n0_ n1_ n2_ n3_ n4_ n5_ n6_ n7_ n8_
            (try clear hb)
            (try clear hb2)
            (try clear hk)
            (try clear hi)
            refine hK.out _ _ ⟨(blk_cell BK172.out 0).trans rfl, (blk_cell BK158.out 0).trans rfl⟩ (fun hHeld => ?_)
            clear hK K
            refine norm_ (a' := ?_) ?_ ?_
            rotate_left
            · show Act.put _ (some 58) _ = _
              simp only [Act.put, List.setIfInBounds_toArray, List.set_cons_zero, List.set_cons_succ, i64_w, i32_w]
              rfl
            refine pure_ (i := 4) (N := some 59) (v := ?_) (a' := ?_) #[true, true, true, true, true] rfl rfl (by kernel_rfl) (fun _ _ _ h => h) (Or.inl ⟨by rfl, ?_⟩) ?_ ?_
            rotate_left
            · intro w'
              go_simp
              with_reducible rfl
            rotate_left
            · simp only [Act.put, List.setIfInBounds_toArray, List.set_cons_zero, List.set_cons_succ, i64_w, i32_w]
              rfl
            refine done_ (by kernel_rfl) ?_
            have hnb75 := NB172_158.out
            have hnc75 := NB158_172.out
            have hnb76 := NB172_168.out
            have hnc76 := NB168_172.out
            have hnb77 := NB172_178.out
            have hnc77 := NB178_172.out
            have hcz78_0 : w74.cell? ⟨gb172, 0, none⟩ = some (.slice Ao27 t169.length co27) := (blk_cell BK172.out 0).trans rfl
            have hfz78_0 := blk_frozen BK172.out 0
            go_upto_region 14 with (first | ((with_reducible refine gate_callee (f := 31) rfl ?_); refine goesL_ (some 62) rfl rfl Try.func31 (by kernel_rfl) rfl #[.agg #[.slice Ao27 t169.length co27], .int .i64 1] rfl (by (try simp only [List.map_toArray, List.map_cons, List.map_nil]); first | done | rfl | (simp only [List.length_drop, List.length_take]; rfl)) ?_; (with_reducible refine (laws_markTable.calls kj11 (fun k_ => some k_ = (.slice Ao27 t169.length co27 : Value).ownBlock) (.slice Ao27 t169.length co27) t169 1 t184 t185 w _ ?side1 ?side2 A69.out).mono ?_); (case side1 => repeat (first | (with_reducible first | exact HB.out | apply below_alloc | apply pw_below_drewN | apply below_drew1 | refine below_set ?_ GE158.out | refine below_set ?_ GE168.out | refine below_set ?_ GE172.out | refine below_set ?_ GE178.out) | exact HB.out)); (case side2 => exact Kd.R_tight rfl HO_173000.out); rintro e w79 ⟨rfl, hy0, hb, hkp⟩; refine ⟨_, rfl, ?_⟩; have n0_ := Aside0.mk (Kd.R_mono (ok' := fun k_ => some k_ ≠ (.slice Ao27 t169.length co27 : Value).ownBlock ∧ some k_ ≠ (.slice Ao33 t173.length co33 : Value).ownBlock ∧ some k_ ≠ (.slice Ao73 t180.length co73 : Value).ownBlock) (Kd.R_keptB (HO_169000.out) hkp (fun k_ hk_ hs_ => (hk_.1.1) hs_)) (fun k_ hk_ => ⟨hk_.1.1.1, hk_.1.1.2, hk_.1.2⟩)); have n1_ := Aside0.mk (Kd.R_reok rfl hy0 (fun k_ e_ => HO_173000.out.1 k_ e_)); have n2_ := Aside0.mk (Kd.R_mono (ok' := fun k_ => some k_ ≠ (.slice Ao21 t163.length co21 : Value).ownBlock ∧ some k_ ≠ (.slice Ao27 t169.length co27 : Value).ownBlock ∧ some k_ ≠ (.slice Ao73 t180.length co73 : Value).ownBlock) (Kd.R_keptB (HO_179000.out) hkp (fun k_ hk_ hs_ => (hk_.1.2) hs_)) (fun k_ hk_ => ⟨hk_.1.1.1, hk_.1.1.2, hk_.1.2⟩)); have n3_ := Aside0.mk (blk_kept (by (with_reducible repeat (first | refine blk_drewN ?_ _ | refine blk_drew ?_ | refine blk_alloc ?_ _)); exact BK158.out) hkp (fun hs_ => (fun e_ => (Kd.R_ne HO_173000.out BK158.out (by decide)) e_) hs_)); have n4_ := Aside0.mk (blk_kept (by (with_reducible repeat (first | refine blk_drewN ?_ _ | refine blk_drew ?_ | refine blk_alloc ?_ _)); exact BK168.out) hkp (fun hs_ => (fun e_ => (Kd.R_ne HO_173000.out BK168.out (by decide)) e_) hs_)); have n5_ := Aside0.mk (blk_kept (by (with_reducible repeat (first | refine blk_drewN ?_ _ | refine blk_drew ?_ | refine blk_alloc ?_ _)); exact BK172.out) hkp (fun hs_ => (fun e_ => (Kd.R_ne HO_173000.out BK172.out (by decide)) e_) hs_)); have n6_ := Aside0.mk (blk_kept (by (with_reducible repeat (first | refine blk_drewN ?_ _ | refine blk_drew ?_ | refine blk_alloc ?_ _)); exact BK178.out) hkp (fun hs_ => (fun e_ => (Kd.R_ne HO_173000.out BK178.out (by decide)) e_) hs_)); have n7_ := Aside0.mk (Kd.R_mono (ok' := fun k_ => some k_ ≠ (.slice Ao21 t163.length co21 : Value).ownBlock ∧ some k_ ≠ (.slice Ao27 t169.length co27 : Value).ownBlock ∧ some k_ ≠ (.slice Ao33 t173.length co33 : Value).ownBlock) (Kd.R_keptB (HO182.out) hkp (fun k_ hk_ hs_ => (hk_.1.2) hs_)) (fun k_ hk_ => ⟨hk_.1.1.1.2, hk_.1.1.2, hk_.1.2⟩)); have n8_ := Aside0.mk (hb); clear HO_169000; clear HO_173000; clear HO_179000; clear BK158; clear BK168; clear BK172; clear BK178; clear HO182; clear HB; have HO_169000 := n0_; have HO_173000 := n1_; have HO_179000 := n2_; have BK158 := n3_; have BK168 := n4_; have BK172 := n5_; have BK178 := n6_; have HO182 := n7_; have HB := n8_; clear n0_ n1_ n2_ n3_ n4_ n5_ n6_ n7_ n8_; (try clear hb); (try clear hkp); (try clear hy0)))
            (try simp only [Act.put, List.setIfInBounds_toArray, List.set_cons_zero, List.set_cons_succ])
            go_cut [80] (fun v80 wc => ∃ (kq : Nat) (x80_69 : Bool), v80 = .bool x80_69 ∧ Aside0 (laws_FnExactTableAdd.j1 kq a1 t166 t167 x80_69 l0_0 t163 t173 = some r) ∧ Aside0 (kq ≤ kj11) ∧ Aside0 (Kd.R (Kd.int .i64) 3 wc w.heap.size (fun k_ => some k_ ≠ ((.slice Ao27 t169.length co27) : Value).ownBlock ∧ some k_ ≠ ((.slice Ao33 t173.length co33) : Value).ownBlock) (.slice Ao21 t163.length co21) t163) ∧ Aside0 (Kd.R (Kd.int .i64) 3 wc w.heap.size (fun k_ => some k_ ≠ ((.slice Ao21 t163.length co21) : Value).ownBlock ∧ some k_ ≠ ((.slice Ao33 t173.length co33) : Value).ownBlock) (.slice Ao27 t169.length co27) t185) ∧ Aside0 (Kd.R (Kd.int .i64) 3 wc w.heap.size (fun k_ => some k_ ≠ ((.slice Ao21 t163.length co21) : Value).ownBlock ∧ some k_ ≠ ((.slice Ao27 t169.length co27) : Value).ownBlock) (.slice Ao33 t173.length co33) t173) ∧ Aside0 (wc.heap[gb158]? = some (.cells #[(.slice A0_0 l0_0.length c0_0)] 33 (0, 0))) ∧ Aside0 (wc.heap[gb168]? = some (.cells #[(.slice Ao21 t163.length co21)] 36 (0, 0))) ∧ Aside0 (wc.heap[gb172]? = some (.cells #[(.slice Ao27 t169.length co27)] 36 (0, 0))) ∧ Aside0 (wc.heap[gb178]? = some (.cells #[(.slice Ao33 t173.length co33)] 36 (0, 0))) ∧ Aside0 (Below w.heap.size w wc))
            case first =>
              have H := HC70.out
              clear HC70
              by_cases c80 : t184 < 0
              · rw [if_pos c80] at H
                have c80b0 : decide (t184 < 0) = true := decide_eq_true c80
                clear c80
                (first | rw [c80b0] | (simp only [i64_w, i32_w]; rw [c80b0]) | skip)
                have H' := Aside0.mk H
                clear H
                go_wp2
                go_meet
                case rel => exact ⟨_, (true), (by first | rfl | (simp; done) | (simp [*]; done)), H', ⟨by have := HJ11.out; first | omega | exact Nat.le_refl _⟩, ⟨by (with_reducible repeat (first | apply Kd.R_alloc | apply Kd.R_drewN | apply Kd.R_drew)); exact Kd.R_mono HO_169000.out (fun _ hk => ⟨hk.1, hk.2.1⟩)⟩, ⟨by (with_reducible repeat (first | apply Kd.R_alloc | apply Kd.R_drewN | apply Kd.R_drew)); exact Kd.R_mono HO_173000.out (fun _ hk => ⟨hk.1.1, hk.1.2⟩)⟩, ⟨by (with_reducible repeat (first | apply Kd.R_alloc | apply Kd.R_drewN | apply Kd.R_drew)); exact Kd.R_mono HO_179000.out (fun _ hk => ⟨hk.1, hk.2.1⟩)⟩, ⟨by (with_reducible repeat (first | refine blk_drewN ?_ _ | refine blk_drew ?_ | refine blk_alloc ?_ _)); exact BK158.out⟩, ⟨by (with_reducible repeat (first | refine blk_drewN ?_ _ | refine blk_drew ?_ | refine blk_alloc ?_ _)); exact BK168.out⟩, ⟨by (with_reducible repeat (first | refine blk_drewN ?_ _ | refine blk_drew ?_ | refine blk_alloc ?_ _)); exact BK172.out⟩, ⟨by (with_reducible repeat (first | refine blk_drewN ?_ _ | refine blk_drew ?_ | refine blk_alloc ?_ _)); exact BK178.out⟩, ⟨by repeat (first | (with_reducible first | exact HB.out | apply below_alloc | apply pw_below_drewN | apply below_drew1 | refine below_set ?_ GE158.out | refine below_set ?_ GE168.out | refine below_set ?_ GE172.out | refine below_set ?_ GE178.out) | exact HB.out)⟩⟩
              · rw [if_neg c80] at H
                have c80b0 : decide (t184 < 0) = false := decide_eq_false c80
                clear c80
                (first | rw [c80b0] | (simp only [i64_w, i32_w]; rw [c80b0]) | skip)
                replace H := Option.bind_eq_some_iff.mp H
                obtain ⟨t186, A810, H⟩ := H
                replace H : (if t186 = true then (if t176 = t166 then (laws_FnExactTableAdd.j1 kj11 a1 t166 t167 (t177 != t167) l0_0 t163 t173) else (laws_FnExactTableAdd.j1 kj11 a1 t166 t167 true l0_0 t163 t173)) else (laws_FnExactTableAdd.j1 kj11 a1 t166 t167 true l0_0 t163 t173)) = some r := H
                have A81 := Aside0.mk A810
                clear A810
                by_cases c82 : t186 = true
                · subst c82
                  have H1 : (if t176 = t166 then (laws_FnExactTableAdd.j1 kj11 a1 t166 t167 (t177 != t167) l0_0 t163 t173) else (laws_FnExactTableAdd.j1 kj11 a1 t166 t167 true l0_0 t163 t173)) = some r := by rw [if_pos rfl] at H; exact H
                  clear H
                  have H := H1
                  clear H1
                  by_cases c83 : t176 = t166
                  · rw [if_pos c83] at H
                    have c83b0 : (t176 == t166) = true := beq_iff_eq.mpr c83
                    have c83b1 : (t176 != t166) = false := bne_eq_false_iff_eq.mpr c83
                    clear c83
                    have H' := Aside0.mk H
                    clear H
                    have hnb84 := NB178_158.out
                    have hnc84 := NB158_178.out
                    have hnb85 := NB178_168.out
                    have hnc85 := NB168_178.out
                    have hnb86 := NB178_172.out
                    have hnc86 := NB172_178.out
                    have hcz87_0 : w79.cell? ⟨gb178, 0, none⟩ = some (.slice Ao33 t173.length co33) := (blk_cell BK178.out 0).trans rfl
                    have hfz87_0 := blk_frozen BK178.out 0
                    have hnb88 := NB168_158.out
                    have hnc88 := NB158_168.out
                    have hnb89 := NB168_172.out
                    have hnc89 := NB172_168.out
                    have hcz90_0 : w79.cell? ⟨gb168, 0, none⟩ = some (.slice Ao21 t163.length co21) := (blk_cell BK168.out 0).trans rfl
                    have hfz90_0 := blk_frozen BK168.out 0
                    go_wp2_with (first | (go_at_call 24; (with_reducible refine (laws_eqTable.calls kj11 _ _ t173 _ _ t163 true _ ?side1 ?side2 ?side3 ?side4 A81.out).mono ?_); (case side1 => repeat (first | exact (Kd.R_reads' HO_179000.out).2.2 | (with_reducible refine Kd.C_alloc ?_ _) | (with_reducible refine Kd.C_drewN ?_ _) | (with_reducible refine Kd.C_drew ?_))); (case side2 => exact (Kd.R_reads' HO_179000.out).2.1); (case side3 => repeat (first | exact (Kd.R_reads' HO_169000.out).2.2 | (with_reducible refine Kd.C_alloc ?_ _) | (with_reducible refine Kd.C_drewN ?_ _) | (with_reducible refine Kd.C_drew ?_))); (case side4 => exact (Kd.R_reads' HO_169000.out).2.1); rintro e w91 ⟨rfl, hb⟩; have n0_ := Aside0.mk (Kd.R_below (by (with_reducible repeat (first | apply Kd.R_alloc | apply Kd.R_drewN | apply Kd.R_drew)); exact HO_169000.out) hb); have n1_ := Aside0.mk (Kd.R_below (by (with_reducible repeat (first | apply Kd.R_alloc | apply Kd.R_drewN | apply Kd.R_drew)); exact HO_173000.out) hb); have n2_ := Aside0.mk (Kd.R_below (by (with_reducible repeat (first | apply Kd.R_alloc | apply Kd.R_drewN | apply Kd.R_drew)); exact HO_179000.out) hb); have n3_ := Aside0.mk (Kd.R_below (by (with_reducible repeat (first | apply Kd.R_alloc | apply Kd.R_drewN | apply Kd.R_drew)); exact HO182.out) hb); have n4_ := Aside0.mk (blk_below (g := gb158) (o := .cells #[.slice A0_0 l0_0.length c0_0] 33 (0, 0)) (by (with_reducible repeat (first | refine blk_drewN ?_ _ | refine blk_drew ?_ | refine blk_alloc ?_ _)); exact BK158.out) hb); have n5_ := Aside0.mk (blk_below (g := gb168) (o := .cells #[.slice Ao21 t163.length co21] 36 (0, 0)) (by (with_reducible repeat (first | refine blk_drewN ?_ _ | refine blk_drew ?_ | refine blk_alloc ?_ _)); exact BK168.out) hb); have n6_ := Aside0.mk (blk_below (g := gb172) (o := .cells #[.slice Ao27 t169.length co27] 36 (0, 0)) (by (with_reducible repeat (first | refine blk_drewN ?_ _ | refine blk_drew ?_ | refine blk_alloc ?_ _)); exact BK172.out) hb); have n7_ := Aside0.mk (blk_below (g := gb178) (o := .cells #[.slice Ao33 t173.length co33] 36 (0, 0)) (by (with_reducible repeat (first | refine blk_drewN ?_ _ | refine blk_drew ?_ | refine blk_alloc ?_ _)); exact BK178.out) hb); have n8_ := Aside0.mk (below_step (by repeat (first | (with_reducible first | exact HB.out | apply below_alloc | apply pw_below_drewN | apply below_drew1 | refine below_set ?_ GE158.out | refine below_set ?_ GE168.out | refine below_set ?_ GE172.out | refine below_set ?_ GE178.out) | exact HB.out)) hb); clear HO_169000; clear HO_173000; clear HO_179000; clear HO182; clear BK158; clear BK168; clear BK172; clear BK178; clear HB; have HO_169000 := n0_; have HO_173000 := n1_; have HO_179000 := n2_; have HO182 := n3_; have BK158 := n4_; have BK168 := n5_; have BK172 := n6_; have BK178 := n7_; have HB := n8_; clear n0_ n1_ n2_ n3_ n4_ n5_ n6_ n7_ n8_; (try clear hb); (try clear hb2); (try clear hk); (try clear hi)))
                    go_meet
                    case rel => exact ⟨_, ((t177 != t167)), (by first | rfl | (simp; done) | (simp [*]; done)), H', ⟨by have := HJ11.out; first | omega | exact Nat.le_refl _⟩, ⟨by (with_reducible repeat (first | apply Kd.R_alloc | apply Kd.R_drewN | apply Kd.R_drew)); exact Kd.R_mono HO_169000.out (fun _ hk => ⟨hk.1, hk.2.1⟩)⟩, ⟨by (with_reducible repeat (first | apply Kd.R_alloc | apply Kd.R_drewN | apply Kd.R_drew)); exact Kd.R_mono HO_173000.out (fun _ hk => ⟨hk.1.1, hk.1.2⟩)⟩, ⟨by (with_reducible repeat (first | apply Kd.R_alloc | apply Kd.R_drewN | apply Kd.R_drew)); exact Kd.R_mono HO_179000.out (fun _ hk => ⟨hk.1, hk.2.1⟩)⟩, ⟨by (with_reducible repeat (first | refine blk_drewN ?_ _ | refine blk_drew ?_ | refine blk_alloc ?_ _)); exact BK158.out⟩, ⟨by (with_reducible repeat (first | refine blk_drewN ?_ _ | refine blk_drew ?_ | refine blk_alloc ?_ _)); exact BK168.out⟩, ⟨by (with_reducible repeat (first | refine blk_drewN ?_ _ | refine blk_drew ?_ | refine blk_alloc ?_ _)); exact BK172.out⟩, ⟨by (with_reducible repeat (first | refine blk_drewN ?_ _ | refine blk_drew ?_ | refine blk_alloc ?_ _)); exact BK178.out⟩, ⟨by repeat (first | (with_reducible first | exact HB.out | apply below_alloc | apply pw_below_drewN | apply below_drew1 | refine below_set ?_ GE158.out | refine below_set ?_ GE168.out | refine below_set ?_ GE172.out | refine below_set ?_ GE178.out) | exact HB.out)⟩⟩
                  · rw [if_neg c83] at H
                    have c83b0 : (t176 == t166) = false := beq_eq_false_iff_ne.mpr c83
                    have c83b1 : (t176 != t166) = true := bne_iff_ne.mpr c83
                    have H' := Aside0.mk H
                    clear H
                    have hnb92 := NB178_158.out
                    have hnc92 := NB158_178.out
                    have hnb93 := NB178_168.out
                    have hnc93 := NB168_178.out
                    have hnb94 := NB178_172.out
                    have hnc94 := NB172_178.out
                    have hcz95_0 : w79.cell? ⟨gb178, 0, none⟩ = some (.slice Ao33 t173.length co33) := (blk_cell BK178.out 0).trans rfl
                    have hfz95_0 := blk_frozen BK178.out 0
                    have hnb96 := NB168_158.out
                    have hnc96 := NB158_168.out
                    have hnb97 := NB168_172.out
                    have hnc97 := NB172_168.out
                    have hcz98_0 : w79.cell? ⟨gb168, 0, none⟩ = some (.slice Ao21 t163.length co21) := (blk_cell BK168.out 0).trans rfl
                    have hfz98_0 := blk_frozen BK168.out 0
                    go_wp2_with (first | (go_at_call 24; (with_reducible refine (laws_eqTable.calls kj11 _ _ t173 _ _ t163 true _ ?side1 ?side2 ?side3 ?side4 A81.out).mono ?_); (case side1 => repeat (first | exact (Kd.R_reads' HO_179000.out).2.2 | (with_reducible refine Kd.C_alloc ?_ _) | (with_reducible refine Kd.C_drewN ?_ _) | (with_reducible refine Kd.C_drew ?_))); (case side2 => exact (Kd.R_reads' HO_179000.out).2.1); (case side3 => repeat (first | exact (Kd.R_reads' HO_169000.out).2.2 | (with_reducible refine Kd.C_alloc ?_ _) | (with_reducible refine Kd.C_drewN ?_ _) | (with_reducible refine Kd.C_drew ?_))); (case side4 => exact (Kd.R_reads' HO_169000.out).2.1); rintro e w99 ⟨rfl, hb⟩; have n0_ := Aside0.mk (Kd.R_below (by (with_reducible repeat (first | apply Kd.R_alloc | apply Kd.R_drewN | apply Kd.R_drew)); exact HO_169000.out) hb); have n1_ := Aside0.mk (Kd.R_below (by (with_reducible repeat (first | apply Kd.R_alloc | apply Kd.R_drewN | apply Kd.R_drew)); exact HO_173000.out) hb); have n2_ := Aside0.mk (Kd.R_below (by (with_reducible repeat (first | apply Kd.R_alloc | apply Kd.R_drewN | apply Kd.R_drew)); exact HO_179000.out) hb); have n3_ := Aside0.mk (Kd.R_below (by (with_reducible repeat (first | apply Kd.R_alloc | apply Kd.R_drewN | apply Kd.R_drew)); exact HO182.out) hb); have n4_ := Aside0.mk (blk_below (g := gb158) (o := .cells #[.slice A0_0 l0_0.length c0_0] 33 (0, 0)) (by (with_reducible repeat (first | refine blk_drewN ?_ _ | refine blk_drew ?_ | refine blk_alloc ?_ _)); exact BK158.out) hb); have n5_ := Aside0.mk (blk_below (g := gb168) (o := .cells #[.slice Ao21 t163.length co21] 36 (0, 0)) (by (with_reducible repeat (first | refine blk_drewN ?_ _ | refine blk_drew ?_ | refine blk_alloc ?_ _)); exact BK168.out) hb); have n6_ := Aside0.mk (blk_below (g := gb172) (o := .cells #[.slice Ao27 t169.length co27] 36 (0, 0)) (by (with_reducible repeat (first | refine blk_drewN ?_ _ | refine blk_drew ?_ | refine blk_alloc ?_ _)); exact BK172.out) hb); have n7_ := Aside0.mk (blk_below (g := gb178) (o := .cells #[.slice Ao33 t173.length co33] 36 (0, 0)) (by (with_reducible repeat (first | refine blk_drewN ?_ _ | refine blk_drew ?_ | refine blk_alloc ?_ _)); exact BK178.out) hb); have n8_ := Aside0.mk (below_step (by repeat (first | (with_reducible first | exact HB.out | apply below_alloc | apply pw_below_drewN | apply below_drew1 | refine below_set ?_ GE158.out | refine below_set ?_ GE168.out | refine below_set ?_ GE172.out | refine below_set ?_ GE178.out) | exact HB.out)) hb); clear HO_169000; clear HO_173000; clear HO_179000; clear HO182; clear BK158; clear BK168; clear BK172; clear BK178; clear HB; have HO_169000 := n0_; have HO_173000 := n1_; have HO_179000 := n2_; have HO182 := n3_; have BK158 := n4_; have BK168 := n5_; have BK172 := n6_; have BK178 := n7_; have HB := n8_; clear n0_ n1_ n2_ n3_ n4_ n5_ n6_ n7_ n8_; (try clear hb); (try clear hb2); (try clear hk); (try clear hi)))
                    go_meet
                    case rel => exact ⟨_, (true), (by first | rfl | (simp; done) | (simp [*]; done)), H', ⟨by have := HJ11.out; first | omega | exact Nat.le_refl _⟩, ⟨by (with_reducible repeat (first | apply Kd.R_alloc | apply Kd.R_drewN | apply Kd.R_drew)); exact Kd.R_mono HO_169000.out (fun _ hk => ⟨hk.1, hk.2.1⟩)⟩, ⟨by (with_reducible repeat (first | apply Kd.R_alloc | apply Kd.R_drewN | apply Kd.R_drew)); exact Kd.R_mono HO_173000.out (fun _ hk => ⟨hk.1.1, hk.1.2⟩)⟩, ⟨by (with_reducible repeat (first | apply Kd.R_alloc | apply Kd.R_drewN | apply Kd.R_drew)); exact Kd.R_mono HO_179000.out (fun _ hk => ⟨hk.1, hk.2.1⟩)⟩, ⟨by (with_reducible repeat (first | refine blk_drewN ?_ _ | refine blk_drew ?_ | refine blk_alloc ?_ _)); exact BK158.out⟩, ⟨by (with_reducible repeat (first | refine blk_drewN ?_ _ | refine blk_drew ?_ | refine blk_alloc ?_ _)); exact BK168.out⟩, ⟨by (with_reducible repeat (first | refine blk_drewN ?_ _ | refine blk_drew ?_ | refine blk_alloc ?_ _)); exact BK172.out⟩, ⟨by (with_reducible repeat (first | refine blk_drewN ?_ _ | refine blk_drew ?_ | refine blk_alloc ?_ _)); exact BK178.out⟩, ⟨by repeat (first | (with_reducible first | exact HB.out | apply below_alloc | apply pw_below_drewN | apply below_drew1 | refine below_set ?_ GE158.out | refine below_set ?_ GE168.out | refine below_set ?_ GE172.out | refine below_set ?_ GE178.out) | exact HB.out)⟩⟩
                · replace c82 := Bool.eq_false_iff.mpr c82
                  subst c82
                  have H1 : (laws_FnExactTableAdd.j1 kj11 a1 t166 t167 true l0_0 t163 t173) = some r := by rw [if_neg (show ¬ (false = true) by decide)] at H; exact H
                  clear H
                  have H := H1
                  clear H1
                  have H' := Aside0.mk H
                  clear H
                  have hnb100 := NB178_158.out
                  have hnc100 := NB158_178.out
                  have hnb101 := NB178_168.out
                  have hnc101 := NB168_178.out
                  have hnb102 := NB178_172.out
                  have hnc102 := NB172_178.out
                  have hcz103_0 : w79.cell? ⟨gb178, 0, none⟩ = some (.slice Ao33 t173.length co33) := (blk_cell BK178.out 0).trans rfl
                  have hfz103_0 := blk_frozen BK178.out 0
                  have hnb104 := NB168_158.out
                  have hnc104 := NB158_168.out
                  have hnb105 := NB168_172.out
                  have hnc105 := NB172_168.out
                  have hcz106_0 : w79.cell? ⟨gb168, 0, none⟩ = some (.slice Ao21 t163.length co21) := (blk_cell BK168.out 0).trans rfl
                  have hfz106_0 := blk_frozen BK168.out 0
                  go_wp2_with (first | (go_at_call 24; (with_reducible refine (laws_eqTable.calls kj11 _ _ t173 _ _ t163 false _ ?side1 ?side2 ?side3 ?side4 A81.out).mono ?_); (case side1 => repeat (first | exact (Kd.R_reads' HO_179000.out).2.2 | (with_reducible refine Kd.C_alloc ?_ _) | (with_reducible refine Kd.C_drewN ?_ _) | (with_reducible refine Kd.C_drew ?_))); (case side2 => exact (Kd.R_reads' HO_179000.out).2.1); (case side3 => repeat (first | exact (Kd.R_reads' HO_169000.out).2.2 | (with_reducible refine Kd.C_alloc ?_ _) | (with_reducible refine Kd.C_drewN ?_ _) | (with_reducible refine Kd.C_drew ?_))); (case side4 => exact (Kd.R_reads' HO_169000.out).2.1); rintro e w107 ⟨rfl, hb⟩; have n0_ := Aside0.mk (Kd.R_below (by (with_reducible repeat (first | apply Kd.R_alloc | apply Kd.R_drewN | apply Kd.R_drew)); exact HO_169000.out) hb); have n1_ := Aside0.mk (Kd.R_below (by (with_reducible repeat (first | apply Kd.R_alloc | apply Kd.R_drewN | apply Kd.R_drew)); exact HO_173000.out) hb); have n2_ := Aside0.mk (Kd.R_below (by (with_reducible repeat (first | apply Kd.R_alloc | apply Kd.R_drewN | apply Kd.R_drew)); exact HO_179000.out) hb); have n3_ := Aside0.mk (Kd.R_below (by (with_reducible repeat (first | apply Kd.R_alloc | apply Kd.R_drewN | apply Kd.R_drew)); exact HO182.out) hb); have n4_ := Aside0.mk (blk_below (g := gb158) (o := .cells #[.slice A0_0 l0_0.length c0_0] 33 (0, 0)) (by (with_reducible repeat (first | refine blk_drewN ?_ _ | refine blk_drew ?_ | refine blk_alloc ?_ _)); exact BK158.out) hb); have n5_ := Aside0.mk (blk_below (g := gb168) (o := .cells #[.slice Ao21 t163.length co21] 36 (0, 0)) (by (with_reducible repeat (first | refine blk_drewN ?_ _ | refine blk_drew ?_ | refine blk_alloc ?_ _)); exact BK168.out) hb); have n6_ := Aside0.mk (blk_below (g := gb172) (o := .cells #[.slice Ao27 t169.length co27] 36 (0, 0)) (by (with_reducible repeat (first | refine blk_drewN ?_ _ | refine blk_drew ?_ | refine blk_alloc ?_ _)); exact BK172.out) hb); have n7_ := Aside0.mk (blk_below (g := gb178) (o := .cells #[.slice Ao33 t173.length co33] 36 (0, 0)) (by (with_reducible repeat (first | refine blk_drewN ?_ _ | refine blk_drew ?_ | refine blk_alloc ?_ _)); exact BK178.out) hb); have n8_ := Aside0.mk (below_step (by repeat (first | (with_reducible first | exact HB.out | apply below_alloc | apply pw_below_drewN | apply below_drew1 | refine below_set ?_ GE158.out | refine below_set ?_ GE168.out | refine below_set ?_ GE172.out | refine below_set ?_ GE178.out) | exact HB.out)) hb); clear HO_169000; clear HO_173000; clear HO_179000; clear HO182; clear BK158; clear BK168; clear BK172; clear BK178; clear HB; have HO_169000 := n0_; have HO_173000 := n1_; have HO_179000 := n2_; have HO182 := n3_; have BK158 := n4_; have BK168 := n5_; have BK172 := n6_; have BK178 := n7_; have HB := n8_; clear n0_ n1_ n2_ n3_ n4_ n5_ n6_ n7_ n8_; (try clear hb); (try clear hb2); (try clear hk); (try clear hi)))
                  go_meet
                  case rel => exact ⟨_, (true), (by first | rfl | (simp; done) | (simp [*]; done)), H', ⟨by have := HJ11.out; first | omega | exact Nat.le_refl _⟩, ⟨by (with_reducible repeat (first | apply Kd.R_alloc | apply Kd.R_drewN | apply Kd.R_drew)); exact Kd.R_mono HO_169000.out (fun _ hk => ⟨hk.1, hk.2.1⟩)⟩, ⟨by (with_reducible repeat (first | apply Kd.R_alloc | apply Kd.R_drewN | apply Kd.R_drew)); exact Kd.R_mono HO_173000.out (fun _ hk => ⟨hk.1.1, hk.1.2⟩)⟩, ⟨by (with_reducible repeat (first | apply Kd.R_alloc | apply Kd.R_drewN | apply Kd.R_drew)); exact Kd.R_mono HO_179000.out (fun _ hk => ⟨hk.1, hk.2.1⟩)⟩, ⟨by (with_reducible repeat (first | refine blk_drewN ?_ _ | refine blk_drew ?_ | refine blk_alloc ?_ _)); exact BK158.out⟩, ⟨by (with_reducible repeat (first | refine blk_drewN ?_ _ | refine blk_drew ?_ | refine blk_alloc ?_ _)); exact BK168.out⟩, ⟨by (with_reducible repeat (first | refine blk_drewN ?_ _ | refine blk_drew ?_ | refine blk_alloc ?_ _)); exact BK172.out⟩, ⟨by (with_reducible repeat (first | refine blk_drewN ?_ _ | refine blk_drew ?_ | refine blk_alloc ?_ _)); exact BK178.out⟩, ⟨by repeat (first | (with_reducible first | exact HB.out | apply below_alloc | apply pw_below_drewN | apply below_drew1 | refine below_set ?_ GE158.out | refine below_set ?_ GE168.out | refine below_set ?_ GE172.out | refine below_set ?_ GE178.out) | exact HB.out)⟩⟩
            case rest =>
              clear HC70
              try clear c1
              try clear c2
              try clear p2
              try clear c3
              try clear c4
              try clear c4b0
              try clear c5
              try clear c6
              try clear c7
              try clear c8
              try clear c9
              try clear c10
              try clear c20
              try clear c22
              try clear c24
              try clear c28
              try clear c29
              try clear c30
              try clear c31
              try clear c34
              try clear c35
              try clear c36
              try clear c39
              try clear c40
              try clear c40b0
              try clear c40b1
              try clear c41
              try clear c42
              try clear c43
              try clear c45
              try clear c46
              try clear c49
              try clear c50
              try clear c51
              try clear c53
              try clear c54
              try clear c57
              try clear c58
              try clear c59
              try clear c61
              try clear c62
              try clear c65
              try clear c68
              try clear c75
              try clear c76
              try clear c77
              try clear c80
              try clear c80b0
              try clear c82
              try clear c83
              try clear c83b0
              try clear c83b1
              try clear c84
              try clear c85
              try clear c86
              try clear c88
              try clear c89
              try clear c92
              try clear c93
              try clear c94
              try clear c96
              try clear c97
              try clear c100
              try clear c101
              try clear c102
              try clear c104
              try clear c105
              try clear hcz103_0
              try clear hcz106_0
              try clear hcz14_0
              try clear hcz16_0
              try clear hcz23_0
              try clear hcz24_0
              try clear hcz30_0
              try clear hcz37_0
              try clear hcz44_0
              try clear hcz47_0
              try clear hcz52_0
              try clear hcz55_0
              try clear hcz60_0
              try clear hcz63_0
              try clear hcz6_0
              try clear hcz78_0
              try clear hcz87_0
              try clear hcz90_0
              try clear hcz95_0
              try clear hcz98_0
              try clear hfz103_0
              try clear hfz106_0
              try clear hfz14_0
              try clear hfz16_0
              try clear hfz23_0
              try clear hfz24_0
              try clear hfz30_0
              try clear hfz37_0
              try clear hfz44_0
              try clear hfz47_0
              try clear hfz52_0
              try clear hfz55_0
              try clear hfz60_0
              try clear hfz63_0
              try clear hfz6_0
              try clear hfz78_0
              try clear hfz87_0
              try clear hfz90_0
              try clear hfz95_0
              try clear hfz98_0
              try clear p2
              obtain ⟨kq, x80_69, rfl, HA, HJ69, HO_169000, HO_173000, HO_179000, BK158, BK168, BK172, BK178, HB⟩ := hcut
              have hl173000_69 := (Kd.R_reads' HO_173000.out).1
              rw [hl173000_69] at HO_173000
              (try simp only [hl173000_69])
              (try simp only [hl173000_69] at BK158)
              (try simp only [hl173000_69] at BK168)
              (try simp only [hl173000_69] at BK172)
              (try simp only [hl173000_69] at BK178)
              (try simp only [hl173000_69] at HO_169000)
              (try simp only [hl173000_69] at HO_179000)
              cases kq with
              | zero => exact absurd HA.out (by simp [laws_FnExactTableAdd.j1])
              | succ kj69 =>
                have H := HA.out
                clear HA
                simp only [laws_FnExactTableAdd.j1] at H
                by_cases c108 : x80_69 = true
                · subst c108
                  have H1 : (some false) = some r := by rw [if_pos rfl] at H; exact H
                  clear H
                  have H := H1
                  clear H1
                  obtain rfl := Option.some.inj H
                  go_wp2
                  go_ret
                  exact ⟨by first | rfl | (simp [errW_none, errW_some] <;> rfl) | (simp [*, errW_none, errW_some] <;> rfl), by repeat (first | (with_reducible first | exact HB.out | apply below_alloc | apply pw_below_drewN | apply below_drew1 | refine below_set ?_ GE158.out | refine below_set ?_ GE168.out | refine below_set ?_ GE172.out | refine below_set ?_ GE178.out) | exact HB.out)⟩
                · replace c108 := Bool.eq_false_iff.mpr c108
                  subst c108
                  have H1 : ((laws_markTable.f kj69 t173 1).bind fun bt187 => ((laws_heldTable.f kj69 bt187.2 1).bind fun t189 => (if t189 < 0 then (some false) else (if t189 = bt187.1 then ((laws_toTable.f kj69 l0_0).bind fun t190 => ((impl_TableAdd.f kj69 t190 a1).bind fun bt193 => ((laws_eqTable.f kj69 bt193.1 t163).bind fun t199 => (if t199 = true then (if bt193.2.1 = t166 then (laws_FnExactTableAdd.j2 kj69 bt187.1 (bt193.2.2 != t167) bt187.2) else (laws_FnExactTableAdd.j2 kj69 bt187.1 true bt187.2)) else (laws_FnExactTableAdd.j2 kj69 bt187.1 true bt187.2))))) else (some false))))) = some r := by rw [if_neg (show ¬ (false = true) by decide)] at H; exact H
                  clear H
                  have H := H1
                  clear H1
                  replace H := Option.bind_eq_some_iff.mp H
                  obtain ⟨⟨t187, t188⟩, A1090, H⟩ := H
                  replace H : ((laws_heldTable.f kj69 t188 1).bind fun t189 => (if t189 < 0 then (some false) else (if t189 = t187 then ((laws_toTable.f kj69 l0_0).bind fun t190 => ((impl_TableAdd.f kj69 t190 a1).bind fun bt193 => ((laws_eqTable.f kj69 bt193.1 t163).bind fun t199 => (if t199 = true then (if bt193.2.1 = t166 then (laws_FnExactTableAdd.j2 kj69 t187 (bt193.2.2 != t167) t188) else (laws_FnExactTableAdd.j2 kj69 t187 true t188)) else (laws_FnExactTableAdd.j2 kj69 t187 true t188))))) else (some false)))) = some r := H
                  have A109 := Aside0.mk A1090
                  clear A1090
                  replace H := Option.bind_eq_some_iff.mp H
                  obtain ⟨t189, A1100, H⟩ := H
                  replace H : (if t189 < 0 then (some false) else (if t189 = t187 then ((laws_toTable.f kj69 l0_0).bind fun t190 => ((impl_TableAdd.f kj69 t190 a1).bind fun bt193 => ((laws_eqTable.f kj69 bt193.1 t163).bind fun t199 => (if t199 = true then (if bt193.2.1 = t166 then (laws_FnExactTableAdd.j2 kj69 t187 (bt193.2.2 != t167) t188) else (laws_FnExactTableAdd.j2 kj69 t187 true t188)) else (laws_FnExactTableAdd.j2 kj69 t187 true t188))))) else (some false))) = some r := H
                  have A110 := Aside0.mk A1100
                  clear A1100
                  by_cases c111 : t189 < 0
                  · rw [if_pos c111] at H
                    have c111b0 : decide (t189 < 0) = true := decide_eq_true c111
                    clear c111
                    obtain rfl := Option.some.inj H
                    have hnb112 := NB178_158.out
                    have hnc112 := NB158_178.out
                    have hnb113 := NB178_168.out
                    have hnc113 := NB168_178.out
                    have hnb114 := NB178_172.out
                    have hnc114 := NB172_178.out
                    have hcz115_0 : wc.cell? ⟨gb178, 0, none⟩ = some (.slice Ao33 t173.length co33) := (blk_cell BK178.out 0).trans rfl
                    have hfz115_0 := blk_frozen BK178.out 0
                    go_wp2_with (first | ((with_reducible refine gate_callee (f := 31) rfl ?_); refine goesL_ (some 83) rfl rfl Try.func31 (by kernel_rfl) rfl #[.agg #[.slice Ao33 t173.length co33], .int .i64 1] rfl (by (try simp only [List.map_toArray, List.map_cons, List.map_nil]); first | done | rfl | (simp only [List.length_drop, List.length_take]; rfl)) ?_; (with_reducible refine (laws_markTable.calls kj69 (fun k_ => some k_ = (.slice Ao33 t173.length co33 : Value).ownBlock) (.slice Ao33 t173.length co33) t173 1 t187 t188 w _ ?side1 ?side2 A109.out).mono ?_); (case side1 => repeat (first | (with_reducible first | exact HB.out | apply below_alloc | apply pw_below_drewN | apply below_drew1 | refine below_set ?_ GE158.out | refine below_set ?_ GE168.out | refine below_set ?_ GE172.out | refine below_set ?_ GE178.out) | exact HB.out)); (case side2 => exact Kd.R_tight rfl HO_179000.out); rintro e w116 ⟨rfl, hy0, hb, hkp⟩; refine ⟨_, rfl, ?_⟩; have n0_ := Aside0.mk (Kd.R_mono (ok' := fun k_ => some k_ ≠ (.slice Ao27 t185.length co27 : Value).ownBlock ∧ some k_ ≠ (.slice Ao33 t173.length co33 : Value).ownBlock) (Kd.R_keptB (HO_169000.out) hkp (fun k_ hk_ hs_ => (hk_.2) hs_)) (fun k_ hk_ => ⟨hk_.1.1, hk_.1.2⟩)); have n1_ := Aside0.mk (Kd.R_mono (ok' := fun k_ => some k_ ≠ (.slice Ao21 t163.length co21 : Value).ownBlock ∧ some k_ ≠ (.slice Ao33 t173.length co33 : Value).ownBlock) (Kd.R_keptB (HO_173000.out) hkp (fun k_ hk_ hs_ => (hk_.2) hs_)) (fun k_ hk_ => ⟨hk_.1.1, hk_.1.2⟩)); have n2_ := Aside0.mk (Kd.R_reok rfl hy0 (fun k_ e_ => HO_179000.out.1 k_ e_)); have n3_ := Aside0.mk (blk_kept (by (with_reducible repeat (first | refine blk_drewN ?_ _ | refine blk_drew ?_ | refine blk_alloc ?_ _)); exact BK158.out) hkp (fun hs_ => (fun e_ => (Kd.R_ne HO_179000.out BK158.out (by decide)) e_) hs_)); have n4_ := Aside0.mk (blk_kept (by (with_reducible repeat (first | refine blk_drewN ?_ _ | refine blk_drew ?_ | refine blk_alloc ?_ _)); exact BK168.out) hkp (fun hs_ => (fun e_ => (Kd.R_ne HO_179000.out BK168.out (by decide)) e_) hs_)); have n5_ := Aside0.mk (blk_kept (by (with_reducible repeat (first | refine blk_drewN ?_ _ | refine blk_drew ?_ | refine blk_alloc ?_ _)); exact BK172.out) hkp (fun hs_ => (fun e_ => (Kd.R_ne HO_179000.out BK172.out (by decide)) e_) hs_)); have n6_ := Aside0.mk (blk_kept (by (with_reducible repeat (first | refine blk_drewN ?_ _ | refine blk_drew ?_ | refine blk_alloc ?_ _)); exact BK178.out) hkp (fun hs_ => (fun e_ => (Kd.R_ne HO_179000.out BK178.out (by decide)) e_) hs_)); have n7_ := Aside0.mk (hb); clear HO_169000; clear HO_173000; clear HO_179000; clear BK158; clear BK168; clear BK172; clear BK178; clear HB; have HO_169000 := n0_; have HO_173000 := n1_; have HO_179000 := n2_; have BK158 := n3_; have BK168 := n4_; have BK172 := n5_; have BK178 := n6_; have HB := n7_; clear n0_ n1_ n2_ n3_ n4_ n5_ n6_ n7_; (try clear hb); (try clear hkp); (try clear hy0); have hcz117_0 : w116.cell? ⟨gb178, 0, none⟩ = some (.slice Ao33 t173.length co33) := (blk_cell BK178.out 0).trans rfl; have hfz117_0 := blk_frozen BK178.out 0) | ((with_reducible refine gate_callee (f := 32) rfl ?_); refine goesL_ (some 86) rfl rfl Try.func32 (by kernel_rfl) rfl #[.agg #[.slice Ao33 t188.length co33], .int .i64 1] rfl (by (try simp only [List.map_toArray, List.map_cons, List.map_nil]); first | done | (rw [show t188.length = t173.length from (Kd.R_reads' HO_179000.out).1.symm] <;> rfl) | rfl | (simp only [List.length_drop, List.length_take]; rfl)) ?_; (with_reducible refine (laws_heldTable.calls kj69 _ _ t188 1 t189 _ ?side1 ?side2 A110.out).mono ?_); (case side1 => repeat (first | exact (Kd.R_reads' HO_179000.out).2.2 | (with_reducible refine Kd.C_alloc ?_ _) | (with_reducible refine Kd.C_drewN ?_ _) | (with_reducible refine Kd.C_drew ?_))); (case side2 => rw [show t188.length = t173.length from (Kd.R_reads' HO_179000.out).1.symm]; exact (Kd.R_reads' HO_179000.out).2.1); rintro e w118 ⟨rfl, hb⟩; refine ⟨_, rfl, ?_⟩; have n0_ := Aside0.mk (Kd.R_below (by (with_reducible repeat (first | apply Kd.R_alloc | apply Kd.R_drewN | apply Kd.R_drew)); exact HO_169000.out) hb); have n1_ := Aside0.mk (Kd.R_below (by (with_reducible repeat (first | apply Kd.R_alloc | apply Kd.R_drewN | apply Kd.R_drew)); exact HO_173000.out) hb); have n2_ := Aside0.mk (Kd.R_below (by (with_reducible repeat (first | apply Kd.R_alloc | apply Kd.R_drewN | apply Kd.R_drew)); exact HO_179000.out) hb); have n3_ := Aside0.mk (blk_below (g := gb158) (o := .cells #[.slice A0_0 l0_0.length c0_0] 33 (0, 0)) (by (with_reducible repeat (first | refine blk_drewN ?_ _ | refine blk_drew ?_ | refine blk_alloc ?_ _)); exact BK158.out) hb); have n4_ := Aside0.mk (blk_below (g := gb168) (o := .cells #[.slice Ao21 t163.length co21] 36 (0, 0)) (by (with_reducible repeat (first | refine blk_drewN ?_ _ | refine blk_drew ?_ | refine blk_alloc ?_ _)); exact BK168.out) hb); have n5_ := Aside0.mk (blk_below (g := gb172) (o := .cells #[.slice Ao27 t185.length co27] 36 (0, 0)) (by (with_reducible repeat (first | refine blk_drewN ?_ _ | refine blk_drew ?_ | refine blk_alloc ?_ _)); exact BK172.out) hb); have n6_ := Aside0.mk (blk_below (g := gb178) (o := .cells #[.slice Ao33 t173.length co33] 36 (0, 0)) (by (with_reducible repeat (first | refine blk_drewN ?_ _ | refine blk_drew ?_ | refine blk_alloc ?_ _)); exact BK178.out) hb); have n7_ := Aside0.mk (below_step (by repeat (first | (with_reducible first | exact HB.out | apply below_alloc | apply pw_below_drewN | apply below_drew1 | refine below_set ?_ GE158.out | refine below_set ?_ GE168.out | refine below_set ?_ GE172.out | refine below_set ?_ GE178.out) | exact HB.out)) hb); clear HO_169000; clear HO_173000; clear HO_179000; clear BK158; clear BK168; clear BK172; clear BK178; clear HB; have HO_169000 := n0_; have HO_173000 := n1_; have HO_179000 := n2_; have BK158 := n3_; have BK168 := n4_; have BK172 := n5_; have BK178 := n6_; have HB := n7_; clear n0_ n1_ n2_ n3_ n4_ n5_ n6_ n7_; (try clear hb); (try clear hb2); (try clear hk); (try clear hi)))
                    go_ret
                    exact ⟨by first | rfl | (simp [errW_none, errW_some] <;> rfl) | (simp [*, errW_none, errW_some] <;> rfl), by repeat (first | (with_reducible first | exact HB.out | apply below_alloc | apply pw_below_drewN | apply below_drew1 | refine below_set ?_ GE158.out | refine below_set ?_ GE168.out | refine below_set ?_ GE172.out | refine below_set ?_ GE178.out) | exact HB.out)⟩
                  · rw [if_neg c111] at H
                    have c111b0 : decide (t189 < 0) = false := decide_eq_false c111
                    clear c111
                    by_cases c119 : t189 = t187
                    · rw [if_pos c119] at H
                      have c119b0 : (t189 == t187) = true := beq_iff_eq.mpr c119
                      have c119b1 : (t189 != t187) = false := bne_eq_false_iff_eq.mpr c119
                      clear c119
                      replace H := Option.bind_eq_some_iff.mp H
                      obtain ⟨t190, A1200, H⟩ := H
                      replace H : ((impl_TableAdd.f kj69 t190 a1).bind fun bt193 => ((laws_eqTable.f kj69 bt193.1 t163).bind fun t199 => (if t199 = true then (if bt193.2.1 = t166 then (laws_FnExactTableAdd.j2 kj69 t187 (bt193.2.2 != t167) t188) else (laws_FnExactTableAdd.j2 kj69 t187 true t188)) else (laws_FnExactTableAdd.j2 kj69 t187 true t188)))) = some r := H
                      have A120 := Aside0.mk A1200
                      clear A1200
                      replace H := Option.bind_eq_some_iff.mp H
                      obtain ⟨⟨t193, t196, t197⟩, A1210, H⟩ := H
                      replace H : ((laws_eqTable.f kj69 t193 t163).bind fun t199 => (if t199 = true then (if t196 = t166 then (laws_FnExactTableAdd.j2 kj69 t187 (t197 != t167) t188) else (laws_FnExactTableAdd.j2 kj69 t187 true t188)) else (laws_FnExactTableAdd.j2 kj69 t187 true t188))) = some r := H
                      have A121 := Aside0.mk A1210
                      clear A1210
                      have HC122 := Aside0.mk H
                      clear H
                      have hnb123 := NB178_158.out
                      have hnc123 := NB158_178.out
                      have hnb124 := NB178_168.out
                      have hnc124 := NB168_178.out
                      have hnb125 := NB178_172.out
                      have hnc125 := NB172_178.out
                      have hcz126_0 : wc.cell? ⟨gb178, 0, none⟩ = some (.slice Ao33 t173.length co33) := (blk_cell BK178.out 0).trans rfl
                      have hfz126_0 := blk_frozen BK178.out 0
                      go_upto_region 25 with (first | ((with_reducible refine gate_callee (f := 31) rfl ?_); refine goesL_ (some 83) rfl rfl Try.func31 (by kernel_rfl) rfl #[.agg #[.slice Ao33 t173.length co33], .int .i64 1] rfl (by (try simp only [List.map_toArray, List.map_cons, List.map_nil]); first | done | rfl | (simp only [List.length_drop, List.length_take]; rfl)) ?_; (with_reducible refine (laws_markTable.calls kj69 (fun k_ => some k_ = (.slice Ao33 t173.length co33 : Value).ownBlock) (.slice Ao33 t173.length co33) t173 1 t187 t188 w _ ?side1 ?side2 A109.out).mono ?_); (case side1 => repeat (first | (with_reducible first | exact HB.out | apply below_alloc | apply pw_below_drewN | apply below_drew1 | refine below_set ?_ GE158.out | refine below_set ?_ GE168.out | refine below_set ?_ GE172.out | refine below_set ?_ GE178.out) | exact HB.out)); (case side2 => exact Kd.R_tight rfl HO_179000.out); rintro e w127 ⟨rfl, hy0, hb, hkp⟩; refine ⟨_, rfl, ?_⟩; have n0_ := Aside0.mk (Kd.R_mono (ok' := fun k_ => some k_ ≠ (.slice Ao27 t185.length co27 : Value).ownBlock ∧ some k_ ≠ (.slice Ao33 t173.length co33 : Value).ownBlock) (Kd.R_keptB (HO_169000.out) hkp (fun k_ hk_ hs_ => (hk_.2) hs_)) (fun k_ hk_ => ⟨hk_.1.1, hk_.1.2⟩)); have n1_ := Aside0.mk (Kd.R_mono (ok' := fun k_ => some k_ ≠ (.slice Ao21 t163.length co21 : Value).ownBlock ∧ some k_ ≠ (.slice Ao33 t173.length co33 : Value).ownBlock) (Kd.R_keptB (HO_173000.out) hkp (fun k_ hk_ hs_ => (hk_.2) hs_)) (fun k_ hk_ => ⟨hk_.1.1, hk_.1.2⟩)); have n2_ := Aside0.mk (Kd.R_reok rfl hy0 (fun k_ e_ => HO_179000.out.1 k_ e_)); have n3_ := Aside0.mk (blk_kept (by (with_reducible repeat (first | refine blk_drewN ?_ _ | refine blk_drew ?_ | refine blk_alloc ?_ _)); exact BK158.out) hkp (fun hs_ => (fun e_ => (Kd.R_ne HO_179000.out BK158.out (by decide)) e_) hs_)); have n4_ := Aside0.mk (blk_kept (by (with_reducible repeat (first | refine blk_drewN ?_ _ | refine blk_drew ?_ | refine blk_alloc ?_ _)); exact BK168.out) hkp (fun hs_ => (fun e_ => (Kd.R_ne HO_179000.out BK168.out (by decide)) e_) hs_)); have n5_ := Aside0.mk (blk_kept (by (with_reducible repeat (first | refine blk_drewN ?_ _ | refine blk_drew ?_ | refine blk_alloc ?_ _)); exact BK172.out) hkp (fun hs_ => (fun e_ => (Kd.R_ne HO_179000.out BK172.out (by decide)) e_) hs_)); have n6_ := Aside0.mk (blk_kept (by (with_reducible repeat (first | refine blk_drewN ?_ _ | refine blk_drew ?_ | refine blk_alloc ?_ _)); exact BK178.out) hkp (fun hs_ => (fun e_ => (Kd.R_ne HO_179000.out BK178.out (by decide)) e_) hs_)); have n7_ := Aside0.mk (hb); clear HO_169000; clear HO_173000; clear HO_179000; clear BK158; clear BK168; clear BK172; clear BK178; clear HB; have HO_169000 := n0_; have HO_173000 := n1_; have HO_179000 := n2_; have BK158 := n3_; have BK168 := n4_; have BK172 := n5_; have BK178 := n6_; have HB := n7_; clear n0_ n1_ n2_ n3_ n4_ n5_ n6_ n7_; (try clear hb); (try clear hkp); (try clear hy0); have hcz128_0 : w127.cell? ⟨gb178, 0, none⟩ = some (.slice Ao33 t173.length co33) := (blk_cell BK178.out 0).trans rfl; have hfz128_0 := blk_frozen BK178.out 0) | ((with_reducible refine gate_callee (f := 32) rfl ?_); refine goesL_ (some 86) rfl rfl Try.func32 (by kernel_rfl) rfl #[.agg #[.slice Ao33 t188.length co33], .int .i64 1] rfl (by (try simp only [List.map_toArray, List.map_cons, List.map_nil]); first | done | (rw [show t188.length = t173.length from (Kd.R_reads' HO_179000.out).1.symm] <;> rfl) | rfl | (simp only [List.length_drop, List.length_take]; rfl)) ?_; (with_reducible refine (laws_heldTable.calls kj69 _ _ t188 1 t189 _ ?side1 ?side2 A110.out).mono ?_); (case side1 => repeat (first | exact (Kd.R_reads' HO_179000.out).2.2 | (with_reducible refine Kd.C_alloc ?_ _) | (with_reducible refine Kd.C_drewN ?_ _) | (with_reducible refine Kd.C_drew ?_))); (case side2 => rw [show t188.length = t173.length from (Kd.R_reads' HO_179000.out).1.symm]; exact (Kd.R_reads' HO_179000.out).2.1); rintro e w129 ⟨rfl, hb⟩; refine ⟨_, rfl, ?_⟩; have n0_ := Aside0.mk (Kd.R_below (by (with_reducible repeat (first | apply Kd.R_alloc | apply Kd.R_drewN | apply Kd.R_drew)); exact HO_169000.out) hb); have n1_ := Aside0.mk (Kd.R_below (by (with_reducible repeat (first | apply Kd.R_alloc | apply Kd.R_drewN | apply Kd.R_drew)); exact HO_173000.out) hb); have n2_ := Aside0.mk (Kd.R_below (by (with_reducible repeat (first | apply Kd.R_alloc | apply Kd.R_drewN | apply Kd.R_drew)); exact HO_179000.out) hb); have n3_ := Aside0.mk (blk_below (g := gb158) (o := .cells #[.slice A0_0 l0_0.length c0_0] 33 (0, 0)) (by (with_reducible repeat (first | refine blk_drewN ?_ _ | refine blk_drew ?_ | refine blk_alloc ?_ _)); exact BK158.out) hb); have n4_ := Aside0.mk (blk_below (g := gb168) (o := .cells #[.slice Ao21 t163.length co21] 36 (0, 0)) (by (with_reducible repeat (first | refine blk_drewN ?_ _ | refine blk_drew ?_ | refine blk_alloc ?_ _)); exact BK168.out) hb); have n5_ := Aside0.mk (blk_below (g := gb172) (o := .cells #[.slice Ao27 t185.length co27] 36 (0, 0)) (by (with_reducible repeat (first | refine blk_drewN ?_ _ | refine blk_drew ?_ | refine blk_alloc ?_ _)); exact BK172.out) hb); have n6_ := Aside0.mk (blk_below (g := gb178) (o := .cells #[.slice Ao33 t173.length co33] 36 (0, 0)) (by (with_reducible repeat (first | refine blk_drewN ?_ _ | refine blk_drew ?_ | refine blk_alloc ?_ _)); exact BK178.out) hb); have n7_ := Aside0.mk (below_step (by repeat (first | (with_reducible first | exact HB.out | apply below_alloc | apply pw_below_drewN | apply below_drew1 | refine below_set ?_ GE158.out | refine below_set ?_ GE168.out | refine below_set ?_ GE172.out | refine below_set ?_ GE178.out) | exact HB.out)) hb); clear HO_169000; clear HO_173000; clear HO_179000; clear BK158; clear BK168; clear BK172; clear BK178; clear HB; have HO_169000 := n0_; have HO_173000 := n1_; have HO_179000 := n2_; have BK158 := n3_; have BK168 := n4_; have BK172 := n5_; have BK178 := n6_; have HB := n7_; clear n0_ n1_ n2_ n3_ n4_ n5_ n6_ n7_; (try clear hb); (try clear hb2); (try clear hk); (try clear hi); have hnb130 := NB158_168.out; have hnc130 := NB168_158.out; have hnb131 := NB158_172.out; have hnc131 := NB172_158.out; have hcz132_0 : w129.cell? ⟨gb158, 0, none⟩ = some (.slice A0_0 l0_0.length c0_0) := (blk_cell BK158.out 0).trans rfl; have hfz132_0 := blk_frozen BK158.out 0) | ((with_reducible refine gate_callee (f := 22) rfl ?_); refine goesL_ (some 94) rfl rfl Try.func22 (by kernel_rfl) rfl #[.agg #[.slice A0_0 l0_0.length c0_0]] rfl (by (try simp only [List.map_toArray, List.map_cons, List.map_nil]); first | done | rfl | (simp only [List.length_drop, List.length_take]; rfl)) ?_; (with_reducible refine (laws_toTable.calls kj69 _ _ l0_0 t190 _ ?side1 ?side2 A120.out).mono ?_); (case side1 => repeat (first | exact (Kd.C_below HR0_0.out HB.out) | (with_reducible refine Kd.C_alloc ?_ _) | (with_reducible refine Kd.C_drewN ?_ _) | (with_reducible refine Kd.C_drew ?_))); (case side2 => exact HC0_0.out); rintro e w133 ⟨v191, rfl, ho0, hb⟩; refine ⟨_, rfl, ?_⟩; have n0_ := Aside0.mk (Kd.R_elder' (by (with_reducible repeat (first | apply Kd.R_alloc | apply Kd.R_drewN | apply Kd.R_drew)); exact HO_169000.out) (Kd.R_base ho0) hb); have n1_ := Aside0.mk (Kd.R_elder' (by (with_reducible repeat (first | apply Kd.R_alloc | apply Kd.R_drewN | apply Kd.R_drew)); exact HO_173000.out) (Kd.R_base ho0) hb); have n2_ := Aside0.mk (Kd.R_elder' (by (with_reducible repeat (first | apply Kd.R_alloc | apply Kd.R_drewN | apply Kd.R_drew)); exact HO_179000.out) (Kd.R_base ho0) hb); have n3_ := Aside0.mk (Kd.R_lower (Kd.R_new' (Kd.R_new' (Kd.R_new' ho0 (Kd.R_lt (by (with_reducible repeat (first | apply Kd.R_alloc | apply Kd.R_drewN | apply Kd.R_drew)); exact HO_169000.out))) (Kd.R_lt (by (with_reducible repeat (first | apply Kd.R_alloc | apply Kd.R_drewN | apply Kd.R_drew)); exact HO_173000.out))) (Kd.R_lt (by (with_reducible repeat (first | apply Kd.R_alloc | apply Kd.R_drewN | apply Kd.R_drew)); exact HO_179000.out))) (below_size (by repeat (first | (with_reducible first | exact HB.out | apply below_alloc | apply pw_below_drewN | apply below_drew1 | refine below_set ?_ GE158.out | refine below_set ?_ GE168.out | refine below_set ?_ GE172.out | refine below_set ?_ GE178.out) | exact HB.out)))); have n4_ := Aside0.mk (blk_below (g := gb158) (o := .cells #[.slice A0_0 l0_0.length c0_0] 33 (0, 0)) (by (with_reducible repeat (first | refine blk_drewN ?_ _ | refine blk_drew ?_ | refine blk_alloc ?_ _)); exact BK158.out) hb); have n5_ := Aside0.mk (blk_below (g := gb168) (o := .cells #[.slice Ao21 t163.length co21] 36 (0, 0)) (by (with_reducible repeat (first | refine blk_drewN ?_ _ | refine blk_drew ?_ | refine blk_alloc ?_ _)); exact BK168.out) hb); have n6_ := Aside0.mk (blk_below (g := gb172) (o := .cells #[.slice Ao27 t185.length co27] 36 (0, 0)) (by (with_reducible repeat (first | refine blk_drewN ?_ _ | refine blk_drew ?_ | refine blk_alloc ?_ _)); exact BK172.out) hb); have n7_ := Aside0.mk (blk_below (g := gb178) (o := .cells #[.slice Ao33 t173.length co33] 36 (0, 0)) (by (with_reducible repeat (first | refine blk_drewN ?_ _ | refine blk_drew ?_ | refine blk_alloc ?_ _)); exact BK178.out) hb); have n8_ := Aside0.mk (below_step (by repeat (first | (with_reducible first | exact HB.out | apply below_alloc | apply pw_below_drewN | apply below_drew1 | refine below_set ?_ GE158.out | refine below_set ?_ GE168.out | refine below_set ?_ GE172.out | refine below_set ?_ GE178.out) | exact HB.out)) hb); clear HO_169000; clear HO_173000; clear HO_179000; clear BK158; clear BK168; clear BK172; clear BK178; clear HB; have HO_169000 := n0_; have HO_173000 := n1_; have HO_179000 := n2_; have HO192 := n3_; have BK158 := n4_; have BK168 := n5_; have BK172 := n6_; have BK178 := n7_; have HB := n8_; clear n0_ n1_ n2_ n3_ n4_ n5_ n6_ n7_ n8_; (try clear hb); (try clear hb2); (try clear hk); (try clear hi); (try clear ho0); obtain ⟨Ao134, co134, eo134⟩ := Kd.R_slice HO192.out; subst eo134) | ((with_reducible refine gate_callee (f := 29) rfl ?_); refine goesL_ (some 96) rfl rfl Try.func29 (by kernel_rfl) rfl #[.agg #[.slice Ao134 t190.length co134], .int .i64 a1] rfl (by (try simp only [List.map_toArray, List.map_cons, List.map_nil]); first | done | rfl | (simp only [List.length_drop, List.length_take]; rfl)) ?_; (with_reducible refine (impl_TableAdd.calls kj69 _ _ t190 a1 t193 t196 t197 _ ?side1 ?side2 A121.out).mono ?_); (case side1 => repeat (first | exact (Kd.R_reads' HO192.out).2.2 | (with_reducible refine Kd.C_alloc ?_ _) | (with_reducible refine Kd.C_drewN ?_ _) | (with_reducible refine Kd.C_drew ?_))); (case side2 => exact (Kd.R_reads' HO192.out).2.1); rintro e w135 ⟨v194, rfl, ho0, hb⟩; refine ⟨_, rfl, ?_⟩; have n0_ := Aside0.mk (Kd.R_elder' (by (with_reducible repeat (first | apply Kd.R_alloc | apply Kd.R_drewN | apply Kd.R_drew)); exact HO_169000.out) (Kd.R_base ho0) hb); have n1_ := Aside0.mk (Kd.R_elder' (by (with_reducible repeat (first | apply Kd.R_alloc | apply Kd.R_drewN | apply Kd.R_drew)); exact HO_173000.out) (Kd.R_base ho0) hb); have n2_ := Aside0.mk (Kd.R_elder' (by (with_reducible repeat (first | apply Kd.R_alloc | apply Kd.R_drewN | apply Kd.R_drew)); exact HO_179000.out) (Kd.R_base ho0) hb); have n3_ := Aside0.mk (Kd.R_elder' (by (with_reducible repeat (first | apply Kd.R_alloc | apply Kd.R_drewN | apply Kd.R_drew)); exact HO192.out) (Kd.R_base ho0) hb); have n4_ := Aside0.mk (Kd.R_lower (Kd.R_new' (Kd.R_new' (Kd.R_new' (Kd.R_new' ho0 (Kd.R_lt (by (with_reducible repeat (first | apply Kd.R_alloc | apply Kd.R_drewN | apply Kd.R_drew)); exact HO_169000.out))) (Kd.R_lt (by (with_reducible repeat (first | apply Kd.R_alloc | apply Kd.R_drewN | apply Kd.R_drew)); exact HO_173000.out))) (Kd.R_lt (by (with_reducible repeat (first | apply Kd.R_alloc | apply Kd.R_drewN | apply Kd.R_drew)); exact HO_179000.out))) (Kd.R_lt (by (with_reducible repeat (first | apply Kd.R_alloc | apply Kd.R_drewN | apply Kd.R_drew)); exact HO192.out))) (below_size (by repeat (first | (with_reducible first | exact HB.out | apply below_alloc | apply pw_below_drewN | apply below_drew1 | refine below_set ?_ GE158.out | refine below_set ?_ GE168.out | refine below_set ?_ GE172.out | refine below_set ?_ GE178.out) | exact HB.out)))); have n5_ := Aside0.mk (blk_below (g := gb158) (o := .cells #[.slice A0_0 l0_0.length c0_0] 33 (0, 0)) (by (with_reducible repeat (first | refine blk_drewN ?_ _ | refine blk_drew ?_ | refine blk_alloc ?_ _)); exact BK158.out) hb); have n6_ := Aside0.mk (blk_below (g := gb168) (o := .cells #[.slice Ao21 t163.length co21] 36 (0, 0)) (by (with_reducible repeat (first | refine blk_drewN ?_ _ | refine blk_drew ?_ | refine blk_alloc ?_ _)); exact BK168.out) hb); have n7_ := Aside0.mk (blk_below (g := gb172) (o := .cells #[.slice Ao27 t185.length co27] 36 (0, 0)) (by (with_reducible repeat (first | refine blk_drewN ?_ _ | refine blk_drew ?_ | refine blk_alloc ?_ _)); exact BK172.out) hb); have n8_ := Aside0.mk (blk_below (g := gb178) (o := .cells #[.slice Ao33 t173.length co33] 36 (0, 0)) (by (with_reducible repeat (first | refine blk_drewN ?_ _ | refine blk_drew ?_ | refine blk_alloc ?_ _)); exact BK178.out) hb); have n9_ := Aside0.mk (below_step (by repeat (first | (with_reducible first | exact HB.out | apply below_alloc | apply pw_below_drewN | apply below_drew1 | refine below_set ?_ GE158.out | refine below_set ?_ GE168.out | refine below_set ?_ GE172.out | refine below_set ?_ GE178.out) | exact HB.out)) hb); clear HO_169000; clear HO_173000; clear HO_179000; clear HO192; clear BK158; clear BK168; clear BK172; clear BK178; clear HB; have HO_169000 := n0_; have HO_173000 := n1_; have HO_179000 := n2_; have HO192 := n3_; have HO195 := n4_; have BK158 := n5_; have BK168 := n6_; have BK172 := n7_; have BK178 := n8_; have HB := n9_; clear n0_ n1_ n2_ n3_ n4_ n5_ n6_ n7_ n8_ n9_; (try clear hb); (try clear hb2); (try clear hk); (try clear hi); (try clear ho0)) | ((with_reducible refine gate_dst (N := 16) rfl ?_); refine box_event ?hg (N := 16) ?hd (cs := #[.slice none 0 0]) (t := 36) ?hr ?_; (case hd => rfl); (case hg => rfl); (case hr => first | (go_simp; done) | (go_simp; rfl)); intro gb198 hg w136 hbox hb; have n0_ := Aside0.mk (Kd.R_below (by (with_reducible repeat (first | apply Kd.R_alloc | apply Kd.R_drewN | apply Kd.R_drew)); exact HO_169000.out) hb); have n1_ := Aside0.mk (Kd.R_below (by (with_reducible repeat (first | apply Kd.R_alloc | apply Kd.R_drewN | apply Kd.R_drew)); exact HO_173000.out) hb); have n2_ := Aside0.mk (Kd.R_below (by (with_reducible repeat (first | apply Kd.R_alloc | apply Kd.R_drewN | apply Kd.R_drew)); exact HO_179000.out) hb); have n3_ := Aside0.mk (Kd.R_below (by (with_reducible repeat (first | apply Kd.R_alloc | apply Kd.R_drewN | apply Kd.R_drew)); exact HO192.out) hb); have n4_ := Aside0.mk (Kd.R_below (by (with_reducible repeat (first | apply Kd.R_alloc | apply Kd.R_drewN | apply Kd.R_drew)); exact HO195.out) hb); have n5_ := Aside0.mk (blk_below (g := gb158) (o := .cells #[.slice A0_0 l0_0.length c0_0] 33 (0, 0)) (by (with_reducible repeat (first | refine blk_drewN ?_ _ | refine blk_drew ?_ | refine blk_alloc ?_ _)); exact BK158.out) hb); have n6_ := Aside0.mk (blk_below (g := gb168) (o := .cells #[.slice Ao21 t163.length co21] 36 (0, 0)) (by (with_reducible repeat (first | refine blk_drewN ?_ _ | refine blk_drew ?_ | refine blk_alloc ?_ _)); exact BK168.out) hb); have n7_ := Aside0.mk (blk_below (g := gb172) (o := .cells #[.slice Ao27 t185.length co27] 36 (0, 0)) (by (with_reducible repeat (first | refine blk_drewN ?_ _ | refine blk_drew ?_ | refine blk_alloc ?_ _)); exact BK172.out) hb); have n8_ := Aside0.mk (blk_below (g := gb178) (o := .cells #[.slice Ao33 t173.length co33] 36 (0, 0)) (by (with_reducible repeat (first | refine blk_drewN ?_ _ | refine blk_drew ?_ | refine blk_alloc ?_ _)); exact BK178.out) hb); have n9_ := Aside0.mk (below_step (by repeat (first | (with_reducible first | exact HB.out | apply below_alloc | apply pw_below_drewN | apply below_drew1 | refine below_set ?_ GE158.out | refine below_set ?_ GE168.out | refine below_set ?_ GE172.out | refine below_set ?_ GE178.out) | exact HB.out)) hb); have n10_ := Aside0.mk (hbox); have n11_ := Aside0.mk ((by rw [hg]; exact (below_size (by repeat (first | (with_reducible first | exact HB.out | apply below_alloc | apply pw_below_drewN | apply below_drew1 | refine below_set ?_ GE158.out | refine below_set ?_ GE168.out | refine below_set ?_ GE172.out | refine below_set ?_ GE178.out) | exact HB.out))) : w.heap.size ≤ gb198)); have n12_ := Aside0.mk ((by rw [hg]; exact (below_size (by repeat (first | (with_reducible first | exact HB.out | apply below_alloc | apply pw_below_drewN | apply below_drew1 | refine below_set ?_ GE158.out | refine below_set ?_ GE168.out | refine below_set ?_ GE172.out | refine below_set ?_ GE178.out) | exact HB.out))) : w.heap.size ≤ gb198)); have n13_ := Aside0.mk ((by rw [hg]; exact Nat.ne_of_lt (blk_lt (g := gb158) (o := .cells #[.slice A0_0 l0_0.length c0_0] 33 (0, 0)) (by (with_reducible repeat (first | refine blk_drewN ?_ _ | refine blk_drew ?_ | refine blk_alloc ?_ _)); exact BK158.out)) : gb158 ≠ gb198)); have n14_ := Aside0.mk ((by rw [hg]; exact Nat.ne_of_gt (blk_lt (g := gb158) (o := .cells #[.slice A0_0 l0_0.length c0_0] 33 (0, 0)) (by (with_reducible repeat (first | refine blk_drewN ?_ _ | refine blk_drew ?_ | refine blk_alloc ?_ _)); exact BK158.out)) : gb198 ≠ gb158)); have n15_ := Aside0.mk ((by rw [hg]; exact Nat.ne_of_lt (blk_lt (g := gb168) (o := .cells #[.slice Ao21 t163.length co21] 36 (0, 0)) (by (with_reducible repeat (first | refine blk_drewN ?_ _ | refine blk_drew ?_ | refine blk_alloc ?_ _)); exact BK168.out)) : gb168 ≠ gb198)); have n16_ := Aside0.mk ((by rw [hg]; exact Nat.ne_of_gt (blk_lt (g := gb168) (o := .cells #[.slice Ao21 t163.length co21] 36 (0, 0)) (by (with_reducible repeat (first | refine blk_drewN ?_ _ | refine blk_drew ?_ | refine blk_alloc ?_ _)); exact BK168.out)) : gb198 ≠ gb168)); have n17_ := Aside0.mk ((by rw [hg]; exact Nat.ne_of_lt (blk_lt (g := gb172) (o := .cells #[.slice Ao27 t185.length co27] 36 (0, 0)) (by (with_reducible repeat (first | refine blk_drewN ?_ _ | refine blk_drew ?_ | refine blk_alloc ?_ _)); exact BK172.out)) : gb172 ≠ gb198)); have n18_ := Aside0.mk ((by rw [hg]; exact Nat.ne_of_gt (blk_lt (g := gb172) (o := .cells #[.slice Ao27 t185.length co27] 36 (0, 0)) (by (with_reducible repeat (first | refine blk_drewN ?_ _ | refine blk_drew ?_ | refine blk_alloc ?_ _)); exact BK172.out)) : gb198 ≠ gb172)); have n19_ := Aside0.mk ((by rw [hg]; exact Nat.ne_of_lt (blk_lt (g := gb178) (o := .cells #[.slice Ao33 t173.length co33] 36 (0, 0)) (by (with_reducible repeat (first | refine blk_drewN ?_ _ | refine blk_drew ?_ | refine blk_alloc ?_ _)); exact BK178.out)) : gb178 ≠ gb198)); have n20_ := Aside0.mk ((by rw [hg]; exact Nat.ne_of_gt (blk_lt (g := gb178) (o := .cells #[.slice Ao33 t173.length co33] 36 (0, 0)) (by (with_reducible repeat (first | refine blk_drewN ?_ _ | refine blk_drew ?_ | refine blk_alloc ?_ _)); exact BK178.out)) : gb198 ≠ gb178)); clear HO_169000; clear HO_173000; clear HO_179000; clear HO192; clear HO195; clear BK158; clear BK168; clear BK172; clear BK178; clear HB; have HO_169000 := n0_; have HO_173000 := n1_; have HO_179000 := n2_; have HO192 := n3_; have HO195 := n4_; have BK158 := n5_; have BK168 := n6_; have BK172 := n7_; have BK178 := n8_; have HB := n9_; have BK198 := n10_; have GW198 := n11_; have GE198 := n12_; have NB158_198 := n13_; have NB198_158 := n14_; have NB168_198 := n15_; have NB198_168 := n16_; have NB172_198 := n17_; have NB198_172 := n18_; have NB178_198 := n19_; have NB198_178 := n20_; clear n0_ n1_ n2_ n3_ n4_ n5_ n6_ n7_ n8_ n9_ n10_ n11_ n12_ n13_ n14_ n15_ n16_ n17_ n18_ n19_ n20_; clear hb hbox hg; obtain ⟨Ao137, co137, eo137⟩ := Kd.R_slice HO195.out; subst eo137; have hnb138 := NB198_158.out; have hnc138 := NB158_198.out; have hnb139 := NB198_168.out; have hnc139 := NB168_198.out; have hnb140 := NB198_172.out; have hnc140 := NB172_198.out; have hnb141 := NB198_178.out; have hnc141 := NB178_198.out; have hcz142_0 : w136.cell? ⟨gb198, 0, none⟩ = some (.slice none 0 0) := (blk_cell BK198.out 0).trans rfl; have hfz142_0 := blk_frozen BK198.out 0))
                      (try simp only [Act.put, List.setIfInBounds_toArray, List.set_cons_zero, List.set_cons_succ])
                      go_cut [113] (fun v113 wc => ∃ (kq : Nat) (x113_121 : Bool), v113 = .bool x113_121 ∧ Aside0 (laws_FnExactTableAdd.j2 kq t187 x113_121 t188 = some r) ∧ Aside0 (kq ≤ kj69) ∧ Aside0 (Kd.R (Kd.int .i64) 3 wc w.heap.size (fun k_ => some k_ ≠ ((.slice Ao27 t185.length co27) : Value).ownBlock ∧ some k_ ≠ ((.slice Ao33 t173.length co33) : Value).ownBlock ∧ some k_ ≠ ((.slice Ao137 t193.length co137) : Value).ownBlock) (.slice Ao21 t163.length co21) t163) ∧ Aside0 (Kd.R (Kd.int .i64) 3 wc w.heap.size (fun k_ => some k_ ≠ ((.slice Ao21 t163.length co21) : Value).ownBlock ∧ some k_ ≠ ((.slice Ao33 t173.length co33) : Value).ownBlock ∧ some k_ ≠ ((.slice Ao137 t193.length co137) : Value).ownBlock) (.slice Ao27 t185.length co27) t185) ∧ Aside0 (Kd.R (Kd.int .i64) 3 wc w.heap.size (fun k_ => some k_ ≠ ((.slice Ao21 t163.length co21) : Value).ownBlock ∧ some k_ ≠ ((.slice Ao27 t185.length co27) : Value).ownBlock ∧ some k_ ≠ ((.slice Ao137 t193.length co137) : Value).ownBlock) (.slice Ao33 t173.length co33) t188) ∧ Aside0 (Kd.R (Kd.int .i64) 3 wc w.heap.size (fun k_ => some k_ ≠ ((.slice Ao21 t163.length co21) : Value).ownBlock ∧ some k_ ≠ ((.slice Ao27 t185.length co27) : Value).ownBlock ∧ some k_ ≠ ((.slice Ao33 t173.length co33) : Value).ownBlock) (.slice Ao137 t193.length co137) t193) ∧ Aside0 (wc.heap[gb158]? = some (.cells #[(.slice A0_0 l0_0.length c0_0)] 33 (0, 0))) ∧ Aside0 (wc.heap[gb168]? = some (.cells #[(.slice Ao21 t163.length co21)] 36 (0, 0))) ∧ Aside0 (wc.heap[gb172]? = some (.cells #[(.slice Ao27 t185.length co27)] 36 (0, 0))) ∧ Aside0 (wc.heap[gb178]? = some (.cells #[(.slice Ao33 t173.length co33)] 36 (0, 0))) ∧ Aside0 (wc.heap[gb198]? = some (.cells #[(.slice Ao137 t193.length co137)] 36 (0, 0))) ∧ Aside0 (Below w.heap.size w wc))
                      case first =>
                        have H := HC122.out
                        clear HC122
                        replace H := Option.bind_eq_some_iff.mp H
                        obtain ⟨t199, A1430, H⟩ := H
                        replace H : (if t199 = true then (if t196 = t166 then (laws_FnExactTableAdd.j2 kj69 t187 (t197 != t167) t188) else (laws_FnExactTableAdd.j2 kj69 t187 true t188)) else (laws_FnExactTableAdd.j2 kj69 t187 true t188)) = some r := H
                        have A143 := Aside0.mk A1430
                        clear A1430
                        by_cases c144 : t199 = true
                        · subst c144
                          have H1 : (if t196 = t166 then (laws_FnExactTableAdd.j2 kj69 t187 (t197 != t167) t188) else (laws_FnExactTableAdd.j2 kj69 t187 true t188)) = some r := by rw [if_pos rfl] at H; exact H
                          clear H
                          have H := H1
                          clear H1
                          by_cases c145 : t196 = t166
                          · rw [if_pos c145] at H
                            have c145b0 : (t196 == t166) = true := beq_iff_eq.mpr c145
                            have c145b1 : (t196 != t166) = false := bne_eq_false_iff_eq.mpr c145
                            clear c145
                            (first | rw [c145b0] | (simp only [i64_w, i32_w]; rw [c145b0]) | skip)
                            have H' := Aside0.mk H
                            clear H
                            have hnb146 := NB198_158.out
                            have hnc146 := NB158_198.out
                            have hnb147 := NB198_168.out
                            have hnc147 := NB168_198.out
                            have hnb148 := NB198_172.out
                            have hnc148 := NB172_198.out
                            have hnb149 := NB198_178.out
                            have hnc149 := NB178_198.out
                            have hcz150_0 : w136.cell? ⟨gb198, 0, none⟩ = some (.slice none 0 0) := (blk_cell BK198.out 0).trans rfl
                            have hfz150_0 := blk_frozen BK198.out 0
                            have hnb151 := NB168_158.out
                            have hnc151 := NB158_168.out
                            have hnb152 := NB168_172.out
                            have hnc152 := NB172_168.out
                            have hnb153 := NB168_178.out
                            have hnc153 := NB178_168.out
                            have hcz154_0 : w136.cell? ⟨gb168, 0, none⟩ = some (.slice Ao21 t163.length co21) := (blk_cell BK168.out 0).trans rfl
                            have hfz154_0 := blk_frozen BK168.out 0
                            go_wp2_with (first | ((with_reducible refine gate_callee (f := 24) rfl ?_); refine goesL_ (some 102) rfl rfl Try.func24 (by kernel_rfl) rfl #[.agg #[.slice Ao137 t193.length co137], .agg #[.slice Ao21 t163.length co21]] rfl (by (try simp only [List.map_toArray, List.map_cons, List.map_nil]); first | done | rfl | (simp only [List.length_drop, List.length_take]; rfl)) ?_; (with_reducible refine (laws_eqTable.calls kj69 _ _ t193 _ _ t163 true _ ?side1 ?side2 ?side3 ?side4 A143.out).mono ?_); (case side1 => refine (Kd.R_reads' (e := 3) (base := w.heap.size) (ok := fun k_ => ((((True ∧ some k_ ≠ (.slice Ao21 t163.length co21 : Value).ownBlock) ∧ some k_ ≠ (.slice Ao27 t185.length co27 : Value).ownBlock) ∧ some k_ ≠ (.slice Ao33 t173.length co33 : Value).ownBlock) ∧ some k_ ≠ (.slice Ao134 t190.length co134 : Value).ownBlock)) (n := t193.length) (c := co137) ?_).2.2; exact (by (with_reducible repeat (first | apply Kd.R_alloc | apply Kd.R_drewN | apply Kd.R_drew)); exact (Kd.R_mono (Kd.R_far (p := ⟨gb198, 0, none⟩) (Kd.R_types HO195.out BK198.out (by decide)) (fun _ hk => hk.2) (.slice Ao137 t193.length co137)) (fun _ h_ => h_.1)))); (case side2 => exact (Kd.R_reads' HO195.out).2.1); (case side3 => refine (Kd.R_reads' (e := 3) (base := w.heap.size) (ok := fun k_ => (((some k_ ≠ (.slice Ao27 t185.length co27 : Value).ownBlock ∧ some k_ ≠ (.slice Ao33 t173.length co33 : Value).ownBlock) ∧ some k_ ≠ (.slice Ao134 t190.length co134 : Value).ownBlock) ∧ some k_ ≠ (.slice Ao137 t193.length co137 : Value).ownBlock)) (n := t163.length) (c := co21) ?_).2.2; exact (by (with_reducible repeat (first | apply Kd.R_alloc | apply Kd.R_drewN | apply Kd.R_drew)); exact (Kd.R_mono (Kd.R_far (p := ⟨gb198, 0, none⟩) (Kd.R_types HO_169000.out BK198.out (by decide)) (fun _ hk => hk.2) (.slice Ao137 t193.length co137)) (fun _ h_ => h_.1)))); (case side4 => exact (Kd.R_reads' HO_169000.out).2.1); rintro e w155 ⟨rfl, hb⟩; refine ⟨_, rfl, ?_⟩; have n0_ := Aside0.mk (Kd.R_below (by (with_reducible repeat (first | apply Kd.R_alloc | apply Kd.R_drewN | apply Kd.R_drew)); exact (Kd.R_mono (Kd.R_far (p := ⟨gb198, 0, none⟩) (Kd.R_types HO_169000.out BK198.out (by decide)) (fun _ hk => hk.2) (.slice Ao137 t193.length co137)) (fun _ h_ => h_.1))) hb); have n1_ := Aside0.mk (Kd.R_below (by (with_reducible repeat (first | apply Kd.R_alloc | apply Kd.R_drewN | apply Kd.R_drew)); exact (Kd.R_mono (Kd.R_far (p := ⟨gb198, 0, none⟩) (Kd.R_types HO_173000.out BK198.out (by decide)) (fun _ hk => hk.2) (.slice Ao137 t193.length co137)) (fun _ h_ => h_.1))) hb); have n2_ := Aside0.mk (Kd.R_below (by (with_reducible repeat (first | apply Kd.R_alloc | apply Kd.R_drewN | apply Kd.R_drew)); exact (Kd.R_mono (Kd.R_far (p := ⟨gb198, 0, none⟩) (Kd.R_types HO_179000.out BK198.out (by decide)) (fun _ hk => hk.2) (.slice Ao137 t193.length co137)) (fun _ h_ => h_.1))) hb); have n3_ := Aside0.mk (Kd.R_below (by (with_reducible repeat (first | apply Kd.R_alloc | apply Kd.R_drewN | apply Kd.R_drew)); exact (Kd.R_mono (Kd.R_far (p := ⟨gb198, 0, none⟩) (Kd.R_types HO192.out BK198.out (by decide)) (fun _ hk => hk.2) (.slice Ao137 t193.length co137)) (fun _ h_ => h_.1))) hb); have n4_ := Aside0.mk (Kd.R_below (by (with_reducible repeat (first | apply Kd.R_alloc | apply Kd.R_drewN | apply Kd.R_drew)); exact (Kd.R_mono (Kd.R_far (p := ⟨gb198, 0, none⟩) (Kd.R_types HO195.out BK198.out (by decide)) (fun _ hk => hk.2) (.slice Ao137 t193.length co137)) (fun _ h_ => h_.1))) hb); have n5_ := Aside0.mk (blk_below (g := gb158) (o := .cells #[.slice A0_0 l0_0.length c0_0] 33 (0, 0)) (by (with_reducible repeat (first | refine blk_drewN ?_ _ | refine blk_drew ?_ | refine blk_alloc ?_ _)); refine blk_far ?_ NB158_198.out _; (with_reducible repeat (first | refine blk_drewN ?_ _ | refine blk_drew ?_ | refine blk_alloc ?_ _)); exact BK158.out) hb); have n6_ := Aside0.mk (blk_below (g := gb168) (o := .cells #[.slice Ao21 t163.length co21] 36 (0, 0)) (by (with_reducible repeat (first | refine blk_drewN ?_ _ | refine blk_drew ?_ | refine blk_alloc ?_ _)); refine blk_far ?_ NB168_198.out _; (with_reducible repeat (first | refine blk_drewN ?_ _ | refine blk_drew ?_ | refine blk_alloc ?_ _)); exact BK168.out) hb); have n7_ := Aside0.mk (blk_below (g := gb172) (o := .cells #[.slice Ao27 t185.length co27] 36 (0, 0)) (by (with_reducible repeat (first | refine blk_drewN ?_ _ | refine blk_drew ?_ | refine blk_alloc ?_ _)); refine blk_far ?_ NB172_198.out _; (with_reducible repeat (first | refine blk_drewN ?_ _ | refine blk_drew ?_ | refine blk_alloc ?_ _)); exact BK172.out) hb); have n8_ := Aside0.mk (blk_below (g := gb178) (o := .cells #[.slice Ao33 t173.length co33] 36 (0, 0)) (by (with_reducible repeat (first | refine blk_drewN ?_ _ | refine blk_drew ?_ | refine blk_alloc ?_ _)); refine blk_far ?_ NB178_198.out _; (with_reducible repeat (first | refine blk_drewN ?_ _ | refine blk_drew ?_ | refine blk_alloc ?_ _)); exact BK178.out) hb); have n9_ := Aside0.mk (blk_below (g := gb198) (o := .cells #[.slice Ao137 t193.length co137] 36 (0, 0)) (by (with_reducible repeat (first | refine blk_drewN ?_ _ | refine blk_drew ?_ | refine blk_alloc ?_ _)); refine blk_put (cs := #[.slice none 0 0]) ?_ 0 _ rfl; (with_reducible repeat (first | refine blk_drewN ?_ _ | refine blk_drew ?_ | refine blk_alloc ?_ _)); exact BK198.out) hb); have n10_ := Aside0.mk (below_step (by repeat (first | (with_reducible first | exact HB.out | apply below_alloc | apply pw_below_drewN | apply below_drew1 | refine below_set ?_ GE158.out | refine below_set ?_ GE168.out | refine below_set ?_ GE172.out | refine below_set ?_ GE178.out | refine below_set ?_ GE198.out) | exact HB.out)) hb); clear HO_169000; clear HO_173000; clear HO_179000; clear HO192; clear HO195; clear BK158; clear BK168; clear BK172; clear BK178; clear BK198; clear HB; have HO_169000 := n0_; have HO_173000 := n1_; have HO_179000 := n2_; have HO192 := n3_; have HO195 := n4_; have BK158 := n5_; have BK168 := n6_; have BK172 := n7_; have BK178 := n8_; have BK198 := n9_; have HB := n10_; clear n0_ n1_ n2_ n3_ n4_ n5_ n6_ n7_ n8_ n9_ n10_; (try clear hb); (try clear hb2); (try clear hk); (try clear hi)))
                            go_meet
                            case rel => exact ⟨_, ((t197 != t167)), (by first | rfl | (simp; done) | (simp [*]; done)), H', ⟨by have := HJ11.out; have := HJ69.out; first | omega | exact Nat.le_refl _⟩, ⟨by (try simp only [hl173000_69]); (with_reducible repeat (first | apply Kd.R_alloc | apply Kd.R_drewN | apply Kd.R_drew)); exact Kd.R_mono HO_169000.out (fun _ hk => ⟨hk.1.1.1, ⟨hk.1.1.2, hk.2⟩⟩)⟩, ⟨by (try simp only [hl173000_69]); (with_reducible repeat (first | apply Kd.R_alloc | apply Kd.R_drewN | apply Kd.R_drew)); exact Kd.R_mono HO_173000.out (fun _ hk => ⟨hk.1.1.1, ⟨hk.1.1.2, hk.2⟩⟩)⟩, ⟨by (try simp only [hl173000_69]); (with_reducible repeat (first | apply Kd.R_alloc | apply Kd.R_drewN | apply Kd.R_drew)); exact Kd.R_mono HO_179000.out (fun _ hk => ⟨hk.1.1.1, ⟨hk.1.1.2, hk.2⟩⟩)⟩, ⟨by (try simp only [hl173000_69]); (with_reducible repeat (first | apply Kd.R_alloc | apply Kd.R_drewN | apply Kd.R_drew)); exact Kd.R_mono HO195.out (fun _ hk => ⟨hk.1.1.1.2, ⟨hk.1.1.2, hk.1.2⟩⟩)⟩, ⟨by (try simp only [hl173000_69]); (with_reducible repeat (first | refine blk_drewN ?_ _ | refine blk_drew ?_ | refine blk_alloc ?_ _)); exact BK158.out⟩, ⟨by (try simp only [hl173000_69]); (with_reducible repeat (first | refine blk_drewN ?_ _ | refine blk_drew ?_ | refine blk_alloc ?_ _)); exact BK168.out⟩, ⟨by (try simp only [hl173000_69]); (with_reducible repeat (first | refine blk_drewN ?_ _ | refine blk_drew ?_ | refine blk_alloc ?_ _)); exact BK172.out⟩, ⟨by (try simp only [hl173000_69]); (with_reducible repeat (first | refine blk_drewN ?_ _ | refine blk_drew ?_ | refine blk_alloc ?_ _)); exact BK178.out⟩, ⟨by (try simp only [hl173000_69]); (with_reducible repeat (first | refine blk_drewN ?_ _ | refine blk_drew ?_ | refine blk_alloc ?_ _)); exact BK198.out⟩, ⟨by repeat (first | (with_reducible first | exact HB.out | apply below_alloc | apply pw_below_drewN | apply below_drew1 | refine below_set ?_ GE158.out | refine below_set ?_ GE168.out | refine below_set ?_ GE172.out | refine below_set ?_ GE178.out | refine below_set ?_ GE198.out) | exact HB.out)⟩⟩
                          · rw [if_neg c145] at H
                            have c145b0 : (t196 == t166) = false := beq_eq_false_iff_ne.mpr c145
                            have c145b1 : (t196 != t166) = true := bne_iff_ne.mpr c145
                            (first | rw [c145b0] | (simp only [i64_w, i32_w]; rw [c145b0]) | skip)
                            have H' := Aside0.mk H
                            clear H
                            have hnb156 := NB198_158.out
                            have hnc156 := NB158_198.out
                            have hnb157 := NB198_168.out
                            have hnc157 := NB168_198.out
                            have hnb158 := NB198_172.out
                            have hnc158 := NB172_198.out
                            have hnb159 := NB198_178.out
                            have hnc159 := NB178_198.out
                            have hcz160_0 : w136.cell? ⟨gb198, 0, none⟩ = some (.slice none 0 0) := (blk_cell BK198.out 0).trans rfl
                            have hfz160_0 := blk_frozen BK198.out 0
                            have hnb161 := NB168_158.out
                            have hnc161 := NB158_168.out
                            have hnb162 := NB168_172.out
                            have hnc162 := NB172_168.out
                            have hnb163 := NB168_178.out
                            have hnc163 := NB178_168.out
                            have hcz164_0 : w136.cell? ⟨gb168, 0, none⟩ = some (.slice Ao21 t163.length co21) := (blk_cell BK168.out 0).trans rfl
                            have hfz164_0 := blk_frozen BK168.out 0
                            go_wp2_with (first | ((with_reducible refine gate_callee (f := 24) rfl ?_); refine goesL_ (some 102) rfl rfl Try.func24 (by kernel_rfl) rfl #[.agg #[.slice Ao137 t193.length co137], .agg #[.slice Ao21 t163.length co21]] rfl (by (try simp only [List.map_toArray, List.map_cons, List.map_nil]); first | done | rfl | (simp only [List.length_drop, List.length_take]; rfl)) ?_; (with_reducible refine (laws_eqTable.calls kj69 _ _ t193 _ _ t163 true _ ?side1 ?side2 ?side3 ?side4 A143.out).mono ?_); (case side1 => refine (Kd.R_reads' (e := 3) (base := w.heap.size) (ok := fun k_ => ((((True ∧ some k_ ≠ (.slice Ao21 t163.length co21 : Value).ownBlock) ∧ some k_ ≠ (.slice Ao27 t185.length co27 : Value).ownBlock) ∧ some k_ ≠ (.slice Ao33 t173.length co33 : Value).ownBlock) ∧ some k_ ≠ (.slice Ao134 t190.length co134 : Value).ownBlock)) (n := t193.length) (c := co137) ?_).2.2; exact (by (with_reducible repeat (first | apply Kd.R_alloc | apply Kd.R_drewN | apply Kd.R_drew)); exact (Kd.R_mono (Kd.R_far (p := ⟨gb198, 0, none⟩) (Kd.R_types HO195.out BK198.out (by decide)) (fun _ hk => hk.2) (.slice Ao137 t193.length co137)) (fun _ h_ => h_.1)))); (case side2 => exact (Kd.R_reads' HO195.out).2.1); (case side3 => refine (Kd.R_reads' (e := 3) (base := w.heap.size) (ok := fun k_ => (((some k_ ≠ (.slice Ao27 t185.length co27 : Value).ownBlock ∧ some k_ ≠ (.slice Ao33 t173.length co33 : Value).ownBlock) ∧ some k_ ≠ (.slice Ao134 t190.length co134 : Value).ownBlock) ∧ some k_ ≠ (.slice Ao137 t193.length co137 : Value).ownBlock)) (n := t163.length) (c := co21) ?_).2.2; exact (by (with_reducible repeat (first | apply Kd.R_alloc | apply Kd.R_drewN | apply Kd.R_drew)); exact (Kd.R_mono (Kd.R_far (p := ⟨gb198, 0, none⟩) (Kd.R_types HO_169000.out BK198.out (by decide)) (fun _ hk => hk.2) (.slice Ao137 t193.length co137)) (fun _ h_ => h_.1)))); (case side4 => exact (Kd.R_reads' HO_169000.out).2.1); rintro e w165 ⟨rfl, hb⟩; refine ⟨_, rfl, ?_⟩; have n0_ := Aside0.mk (Kd.R_below (by (with_reducible repeat (first | apply Kd.R_alloc | apply Kd.R_drewN | apply Kd.R_drew)); exact (Kd.R_mono (Kd.R_far (p := ⟨gb198, 0, none⟩) (Kd.R_types HO_169000.out BK198.out (by decide)) (fun _ hk => hk.2) (.slice Ao137 t193.length co137)) (fun _ h_ => h_.1))) hb); have n1_ := Aside0.mk (Kd.R_below (by (with_reducible repeat (first | apply Kd.R_alloc | apply Kd.R_drewN | apply Kd.R_drew)); exact (Kd.R_mono (Kd.R_far (p := ⟨gb198, 0, none⟩) (Kd.R_types HO_173000.out BK198.out (by decide)) (fun _ hk => hk.2) (.slice Ao137 t193.length co137)) (fun _ h_ => h_.1))) hb); have n2_ := Aside0.mk (Kd.R_below (by (with_reducible repeat (first | apply Kd.R_alloc | apply Kd.R_drewN | apply Kd.R_drew)); exact (Kd.R_mono (Kd.R_far (p := ⟨gb198, 0, none⟩) (Kd.R_types HO_179000.out BK198.out (by decide)) (fun _ hk => hk.2) (.slice Ao137 t193.length co137)) (fun _ h_ => h_.1))) hb); have n3_ := Aside0.mk (Kd.R_below (by (with_reducible repeat (first | apply Kd.R_alloc | apply Kd.R_drewN | apply Kd.R_drew)); exact (Kd.R_mono (Kd.R_far (p := ⟨gb198, 0, none⟩) (Kd.R_types HO192.out BK198.out (by decide)) (fun _ hk => hk.2) (.slice Ao137 t193.length co137)) (fun _ h_ => h_.1))) hb); have n4_ := Aside0.mk (Kd.R_below (by (with_reducible repeat (first | apply Kd.R_alloc | apply Kd.R_drewN | apply Kd.R_drew)); exact (Kd.R_mono (Kd.R_far (p := ⟨gb198, 0, none⟩) (Kd.R_types HO195.out BK198.out (by decide)) (fun _ hk => hk.2) (.slice Ao137 t193.length co137)) (fun _ h_ => h_.1))) hb); have n5_ := Aside0.mk (blk_below (g := gb158) (o := .cells #[.slice A0_0 l0_0.length c0_0] 33 (0, 0)) (by (with_reducible repeat (first | refine blk_drewN ?_ _ | refine blk_drew ?_ | refine blk_alloc ?_ _)); refine blk_far ?_ NB158_198.out _; (with_reducible repeat (first | refine blk_drewN ?_ _ | refine blk_drew ?_ | refine blk_alloc ?_ _)); exact BK158.out) hb); have n6_ := Aside0.mk (blk_below (g := gb168) (o := .cells #[.slice Ao21 t163.length co21] 36 (0, 0)) (by (with_reducible repeat (first | refine blk_drewN ?_ _ | refine blk_drew ?_ | refine blk_alloc ?_ _)); refine blk_far ?_ NB168_198.out _; (with_reducible repeat (first | refine blk_drewN ?_ _ | refine blk_drew ?_ | refine blk_alloc ?_ _)); exact BK168.out) hb); have n7_ := Aside0.mk (blk_below (g := gb172) (o := .cells #[.slice Ao27 t185.length co27] 36 (0, 0)) (by (with_reducible repeat (first | refine blk_drewN ?_ _ | refine blk_drew ?_ | refine blk_alloc ?_ _)); refine blk_far ?_ NB172_198.out _; (with_reducible repeat (first | refine blk_drewN ?_ _ | refine blk_drew ?_ | refine blk_alloc ?_ _)); exact BK172.out) hb); have n8_ := Aside0.mk (blk_below (g := gb178) (o := .cells #[.slice Ao33 t173.length co33] 36 (0, 0)) (by (with_reducible repeat (first | refine blk_drewN ?_ _ | refine blk_drew ?_ | refine blk_alloc ?_ _)); refine blk_far ?_ NB178_198.out _; (with_reducible repeat (first | refine blk_drewN ?_ _ | refine blk_drew ?_ | refine blk_alloc ?_ _)); exact BK178.out) hb); have n9_ := Aside0.mk (blk_below (g := gb198) (o := .cells #[.slice Ao137 t193.length co137] 36 (0, 0)) (by (with_reducible repeat (first | refine blk_drewN ?_ _ | refine blk_drew ?_ | refine blk_alloc ?_ _)); refine blk_put (cs := #[.slice none 0 0]) ?_ 0 _ rfl; (with_reducible repeat (first | refine blk_drewN ?_ _ | refine blk_drew ?_ | refine blk_alloc ?_ _)); exact BK198.out) hb); have n10_ := Aside0.mk (below_step (by repeat (first | (with_reducible first | exact HB.out | apply below_alloc | apply pw_below_drewN | apply below_drew1 | refine below_set ?_ GE158.out | refine below_set ?_ GE168.out | refine below_set ?_ GE172.out | refine below_set ?_ GE178.out | refine below_set ?_ GE198.out) | exact HB.out)) hb); clear HO_169000; clear HO_173000; clear HO_179000; clear HO192; clear HO195; clear BK158; clear BK168; clear BK172; clear BK178; clear BK198; clear HB; have HO_169000 := n0_; have HO_173000 := n1_; have HO_179000 := n2_; have HO192 := n3_; have HO195 := n4_; have BK158 := n5_; have BK168 := n6_; have BK172 := n7_; have BK178 := n8_; have BK198 := n9_; have HB := n10_; clear n0_ n1_ n2_ n3_ n4_ n5_ n6_ n7_ n8_ n9_ n10_; (try clear hb); (try clear hb2); (try clear hk); (try clear hi)))
                            go_meet
                            case rel => exact ⟨_, (true), (by first | rfl | (simp; done) | (simp [*]; done)), H', ⟨by have := HJ11.out; have := HJ69.out; first | omega | exact Nat.le_refl _⟩, ⟨by (try simp only [hl173000_69]); (with_reducible repeat (first | apply Kd.R_alloc | apply Kd.R_drewN | apply Kd.R_drew)); exact Kd.R_mono HO_169000.out (fun _ hk => ⟨hk.1.1.1, ⟨hk.1.1.2, hk.2⟩⟩)⟩, ⟨by (try simp only [hl173000_69]); (with_reducible repeat (first | apply Kd.R_alloc | apply Kd.R_drewN | apply Kd.R_drew)); exact Kd.R_mono HO_173000.out (fun _ hk => ⟨hk.1.1.1, ⟨hk.1.1.2, hk.2⟩⟩)⟩, ⟨by (try simp only [hl173000_69]); (with_reducible repeat (first | apply Kd.R_alloc | apply Kd.R_drewN | apply Kd.R_drew)); exact Kd.R_mono HO_179000.out (fun _ hk => ⟨hk.1.1.1, ⟨hk.1.1.2, hk.2⟩⟩)⟩, ⟨by (try simp only [hl173000_69]); (with_reducible repeat (first | apply Kd.R_alloc | apply Kd.R_drewN | apply Kd.R_drew)); exact Kd.R_mono HO195.out (fun _ hk => ⟨hk.1.1.1.2, ⟨hk.1.1.2, hk.1.2⟩⟩)⟩, ⟨by (try simp only [hl173000_69]); (with_reducible repeat (first | refine blk_drewN ?_ _ | refine blk_drew ?_ | refine blk_alloc ?_ _)); exact BK158.out⟩, ⟨by (try simp only [hl173000_69]); (with_reducible repeat (first | refine blk_drewN ?_ _ | refine blk_drew ?_ | refine blk_alloc ?_ _)); exact BK168.out⟩, ⟨by (try simp only [hl173000_69]); (with_reducible repeat (first | refine blk_drewN ?_ _ | refine blk_drew ?_ | refine blk_alloc ?_ _)); exact BK172.out⟩, ⟨by (try simp only [hl173000_69]); (with_reducible repeat (first | refine blk_drewN ?_ _ | refine blk_drew ?_ | refine blk_alloc ?_ _)); exact BK178.out⟩, ⟨by (try simp only [hl173000_69]); (with_reducible repeat (first | refine blk_drewN ?_ _ | refine blk_drew ?_ | refine blk_alloc ?_ _)); exact BK198.out⟩, ⟨by repeat (first | (with_reducible first | exact HB.out | apply below_alloc | apply pw_below_drewN | apply below_drew1 | refine below_set ?_ GE158.out | refine below_set ?_ GE168.out | refine below_set ?_ GE172.out | refine below_set ?_ GE178.out | refine below_set ?_ GE198.out) | exact HB.out)⟩⟩
                        · replace c144 := Bool.eq_false_iff.mpr c144
                          subst c144
                          have H1 : (laws_FnExactTableAdd.j2 kj69 t187 true t188) = some r := by rw [if_neg (show ¬ (false = true) by decide)] at H; exact H
                          clear H
                          have H := H1
                          clear H1
                          have H' := Aside0.mk H
                          clear H
                          have hnb166 := NB198_158.out
                          have hnc166 := NB158_198.out
                          have hnb167 := NB198_168.out
                          have hnc167 := NB168_198.out
                          have hnb168 := NB198_172.out
                          have hnc168 := NB172_198.out
                          have hnb169 := NB198_178.out
                          have hnc169 := NB178_198.out
                          have hcz170_0 : w136.cell? ⟨gb198, 0, none⟩ = some (.slice none 0 0) := (blk_cell BK198.out 0).trans rfl
                          have hfz170_0 := blk_frozen BK198.out 0
                          have hnb171 := NB168_158.out
                          have hnc171 := NB158_168.out
                          have hnb172 := NB168_172.out
                          have hnc172 := NB172_168.out
                          have hnb173 := NB168_178.out
                          have hnc173 := NB178_168.out
                          have hcz174_0 : w136.cell? ⟨gb168, 0, none⟩ = some (.slice Ao21 t163.length co21) := (blk_cell BK168.out 0).trans rfl
                          have hfz174_0 := blk_frozen BK168.out 0
                          go_wp2_with (first | ((with_reducible refine gate_callee (f := 24) rfl ?_); refine goesL_ (some 102) rfl rfl Try.func24 (by kernel_rfl) rfl #[.agg #[.slice Ao137 t193.length co137], .agg #[.slice Ao21 t163.length co21]] rfl (by (try simp only [List.map_toArray, List.map_cons, List.map_nil]); first | done | rfl | (simp only [List.length_drop, List.length_take]; rfl)) ?_; (with_reducible refine (laws_eqTable.calls kj69 _ _ t193 _ _ t163 false _ ?side1 ?side2 ?side3 ?side4 A143.out).mono ?_); (case side1 => refine (Kd.R_reads' (e := 3) (base := w.heap.size) (ok := fun k_ => ((((True ∧ some k_ ≠ (.slice Ao21 t163.length co21 : Value).ownBlock) ∧ some k_ ≠ (.slice Ao27 t185.length co27 : Value).ownBlock) ∧ some k_ ≠ (.slice Ao33 t173.length co33 : Value).ownBlock) ∧ some k_ ≠ (.slice Ao134 t190.length co134 : Value).ownBlock)) (n := t193.length) (c := co137) ?_).2.2; exact (by (with_reducible repeat (first | apply Kd.R_alloc | apply Kd.R_drewN | apply Kd.R_drew)); exact (Kd.R_mono (Kd.R_far (p := ⟨gb198, 0, none⟩) (Kd.R_types HO195.out BK198.out (by decide)) (fun _ hk => hk.2) (.slice Ao137 t193.length co137)) (fun _ h_ => h_.1)))); (case side2 => exact (Kd.R_reads' HO195.out).2.1); (case side3 => refine (Kd.R_reads' (e := 3) (base := w.heap.size) (ok := fun k_ => (((some k_ ≠ (.slice Ao27 t185.length co27 : Value).ownBlock ∧ some k_ ≠ (.slice Ao33 t173.length co33 : Value).ownBlock) ∧ some k_ ≠ (.slice Ao134 t190.length co134 : Value).ownBlock) ∧ some k_ ≠ (.slice Ao137 t193.length co137 : Value).ownBlock)) (n := t163.length) (c := co21) ?_).2.2; exact (by (with_reducible repeat (first | apply Kd.R_alloc | apply Kd.R_drewN | apply Kd.R_drew)); exact (Kd.R_mono (Kd.R_far (p := ⟨gb198, 0, none⟩) (Kd.R_types HO_169000.out BK198.out (by decide)) (fun _ hk => hk.2) (.slice Ao137 t193.length co137)) (fun _ h_ => h_.1)))); (case side4 => exact (Kd.R_reads' HO_169000.out).2.1); rintro e w175 ⟨rfl, hb⟩; refine ⟨_, rfl, ?_⟩; have n0_ := Aside0.mk (Kd.R_below (by (with_reducible repeat (first | apply Kd.R_alloc | apply Kd.R_drewN | apply Kd.R_drew)); exact (Kd.R_mono (Kd.R_far (p := ⟨gb198, 0, none⟩) (Kd.R_types HO_169000.out BK198.out (by decide)) (fun _ hk => hk.2) (.slice Ao137 t193.length co137)) (fun _ h_ => h_.1))) hb); have n1_ := Aside0.mk (Kd.R_below (by (with_reducible repeat (first | apply Kd.R_alloc | apply Kd.R_drewN | apply Kd.R_drew)); exact (Kd.R_mono (Kd.R_far (p := ⟨gb198, 0, none⟩) (Kd.R_types HO_173000.out BK198.out (by decide)) (fun _ hk => hk.2) (.slice Ao137 t193.length co137)) (fun _ h_ => h_.1))) hb); have n2_ := Aside0.mk (Kd.R_below (by (with_reducible repeat (first | apply Kd.R_alloc | apply Kd.R_drewN | apply Kd.R_drew)); exact (Kd.R_mono (Kd.R_far (p := ⟨gb198, 0, none⟩) (Kd.R_types HO_179000.out BK198.out (by decide)) (fun _ hk => hk.2) (.slice Ao137 t193.length co137)) (fun _ h_ => h_.1))) hb); have n3_ := Aside0.mk (Kd.R_below (by (with_reducible repeat (first | apply Kd.R_alloc | apply Kd.R_drewN | apply Kd.R_drew)); exact (Kd.R_mono (Kd.R_far (p := ⟨gb198, 0, none⟩) (Kd.R_types HO192.out BK198.out (by decide)) (fun _ hk => hk.2) (.slice Ao137 t193.length co137)) (fun _ h_ => h_.1))) hb); have n4_ := Aside0.mk (Kd.R_below (by (with_reducible repeat (first | apply Kd.R_alloc | apply Kd.R_drewN | apply Kd.R_drew)); exact (Kd.R_mono (Kd.R_far (p := ⟨gb198, 0, none⟩) (Kd.R_types HO195.out BK198.out (by decide)) (fun _ hk => hk.2) (.slice Ao137 t193.length co137)) (fun _ h_ => h_.1))) hb); have n5_ := Aside0.mk (blk_below (g := gb158) (o := .cells #[.slice A0_0 l0_0.length c0_0] 33 (0, 0)) (by (with_reducible repeat (first | refine blk_drewN ?_ _ | refine blk_drew ?_ | refine blk_alloc ?_ _)); refine blk_far ?_ NB158_198.out _; (with_reducible repeat (first | refine blk_drewN ?_ _ | refine blk_drew ?_ | refine blk_alloc ?_ _)); exact BK158.out) hb); have n6_ := Aside0.mk (blk_below (g := gb168) (o := .cells #[.slice Ao21 t163.length co21] 36 (0, 0)) (by (with_reducible repeat (first | refine blk_drewN ?_ _ | refine blk_drew ?_ | refine blk_alloc ?_ _)); refine blk_far ?_ NB168_198.out _; (with_reducible repeat (first | refine blk_drewN ?_ _ | refine blk_drew ?_ | refine blk_alloc ?_ _)); exact BK168.out) hb); have n7_ := Aside0.mk (blk_below (g := gb172) (o := .cells #[.slice Ao27 t185.length co27] 36 (0, 0)) (by (with_reducible repeat (first | refine blk_drewN ?_ _ | refine blk_drew ?_ | refine blk_alloc ?_ _)); refine blk_far ?_ NB172_198.out _; (with_reducible repeat (first | refine blk_drewN ?_ _ | refine blk_drew ?_ | refine blk_alloc ?_ _)); exact BK172.out) hb); have n8_ := Aside0.mk (blk_below (g := gb178) (o := .cells #[.slice Ao33 t173.length co33] 36 (0, 0)) (by (with_reducible repeat (first | refine blk_drewN ?_ _ | refine blk_drew ?_ | refine blk_alloc ?_ _)); refine blk_far ?_ NB178_198.out _; (with_reducible repeat (first | refine blk_drewN ?_ _ | refine blk_drew ?_ | refine blk_alloc ?_ _)); exact BK178.out) hb); have n9_ := Aside0.mk (blk_below (g := gb198) (o := .cells #[.slice Ao137 t193.length co137] 36 (0, 0)) (by (with_reducible repeat (first | refine blk_drewN ?_ _ | refine blk_drew ?_ | refine blk_alloc ?_ _)); refine blk_put (cs := #[.slice none 0 0]) ?_ 0 _ rfl; (with_reducible repeat (first | refine blk_drewN ?_ _ | refine blk_drew ?_ | refine blk_alloc ?_ _)); exact BK198.out) hb); have n10_ := Aside0.mk (below_step (by repeat (first | (with_reducible first | exact HB.out | apply below_alloc | apply pw_below_drewN | apply below_drew1 | refine below_set ?_ GE158.out | refine below_set ?_ GE168.out | refine below_set ?_ GE172.out | refine below_set ?_ GE178.out | refine below_set ?_ GE198.out) | exact HB.out)) hb); clear HO_169000; clear HO_173000; clear HO_179000; clear HO192; clear HO195; clear BK158; clear BK168; clear BK172; clear BK178; clear BK198; clear HB; have HO_169000 := n0_; have HO_173000 := n1_; have HO_179000 := n2_; have HO192 := n3_; have HO195 := n4_; have BK158 := n5_; have BK168 := n6_; have BK172 := n7_; have BK178 := n8_; have BK198 := n9_; have HB := n10_; clear n0_ n1_ n2_ n3_ n4_ n5_ n6_ n7_ n8_ n9_ n10_; (try clear hb); (try clear hb2); (try clear hk); (try clear hi)))
                          go_meet
                          case rel => exact ⟨_, (true), (by first | rfl | (simp; done) | (simp [*]; done)), H', ⟨by have := HJ11.out; have := HJ69.out; first | omega | exact Nat.le_refl _⟩, ⟨by (try simp only [hl173000_69]); (with_reducible repeat (first | apply Kd.R_alloc | apply Kd.R_drewN | apply Kd.R_drew)); exact Kd.R_mono HO_169000.out (fun _ hk => ⟨hk.1.1.1, ⟨hk.1.1.2, hk.2⟩⟩)⟩, ⟨by (try simp only [hl173000_69]); (with_reducible repeat (first | apply Kd.R_alloc | apply Kd.R_drewN | apply Kd.R_drew)); exact Kd.R_mono HO_173000.out (fun _ hk => ⟨hk.1.1.1, ⟨hk.1.1.2, hk.2⟩⟩)⟩, ⟨by (try simp only [hl173000_69]); (with_reducible repeat (first | apply Kd.R_alloc | apply Kd.R_drewN | apply Kd.R_drew)); exact Kd.R_mono HO_179000.out (fun _ hk => ⟨hk.1.1.1, ⟨hk.1.1.2, hk.2⟩⟩)⟩, ⟨by (try simp only [hl173000_69]); (with_reducible repeat (first | apply Kd.R_alloc | apply Kd.R_drewN | apply Kd.R_drew)); exact Kd.R_mono HO195.out (fun _ hk => ⟨hk.1.1.1.2, ⟨hk.1.1.2, hk.1.2⟩⟩)⟩, ⟨by (try simp only [hl173000_69]); (with_reducible repeat (first | refine blk_drewN ?_ _ | refine blk_drew ?_ | refine blk_alloc ?_ _)); exact BK158.out⟩, ⟨by (try simp only [hl173000_69]); (with_reducible repeat (first | refine blk_drewN ?_ _ | refine blk_drew ?_ | refine blk_alloc ?_ _)); exact BK168.out⟩, ⟨by (try simp only [hl173000_69]); (with_reducible repeat (first | refine blk_drewN ?_ _ | refine blk_drew ?_ | refine blk_alloc ?_ _)); exact BK172.out⟩, ⟨by (try simp only [hl173000_69]); (with_reducible repeat (first | refine blk_drewN ?_ _ | refine blk_drew ?_ | refine blk_alloc ?_ _)); exact BK178.out⟩, ⟨by (try simp only [hl173000_69]); (with_reducible repeat (first | refine blk_drewN ?_ _ | refine blk_drew ?_ | refine blk_alloc ?_ _)); exact BK198.out⟩, ⟨by repeat (first | (with_reducible first | exact HB.out | apply below_alloc | apply pw_below_drewN | apply below_drew1 | refine below_set ?_ GE158.out | refine below_set ?_ GE168.out | refine below_set ?_ GE172.out | refine below_set ?_ GE178.out | refine below_set ?_ GE198.out) | exact HB.out)⟩⟩
                      case rest =>
                        clear HC122
                        try clear c1
                        try clear c2
                        try clear p2
                        try clear c3
                        try clear c4
                        try clear c4b0
                        try clear c5
                        try clear c6
                        try clear c7
                        try clear c8
                        try clear c9
                        try clear c10
                        try clear c11
                        try clear c12
                        try clear c13
                        try clear c14
                        try clear c15
                        try clear c16
                        try clear c17
                        try clear c20
                        try clear c22
                        try clear c24
                        try clear c28
                        try clear c29
                        try clear c30
                        try clear c31
                        try clear c32
                        try clear c34
                        try clear c35
                        try clear c36
                        try clear c39
                        try clear c40
                        try clear c40b0
                        try clear c40b1
                        try clear c41
                        try clear c42
                        try clear c43
                        try clear c45
                        try clear c46
                        try clear c49
                        try clear c50
                        try clear c51
                        try clear c53
                        try clear c54
                        try clear c57
                        try clear c58
                        try clear c59
                        try clear c61
                        try clear c62
                        try clear c65
                        try clear c68
                        try clear c75
                        try clear c76
                        try clear c77
                        try clear c80
                        try clear c80b0
                        try clear c82
                        try clear c83
                        try clear c83b0
                        try clear c83b1
                        try clear c84
                        try clear c85
                        try clear c86
                        try clear c88
                        try clear c89
                        try clear c92
                        try clear c93
                        try clear c94
                        try clear c96
                        try clear c97
                        try clear c100
                        try clear c101
                        try clear c102
                        try clear c104
                        try clear c105
                        try clear c108
                        try clear c111
                        try clear c111b0
                        try clear c112
                        try clear c113
                        try clear c114
                        try clear c119
                        try clear c119b0
                        try clear c119b1
                        try clear c123
                        try clear c124
                        try clear c125
                        try clear c130
                        try clear c131
                        try clear c138
                        try clear c139
                        try clear c140
                        try clear c141
                        try clear c144
                        try clear c145
                        try clear c145b0
                        try clear c145b1
                        try clear c146
                        try clear c147
                        try clear c148
                        try clear c149
                        try clear c151
                        try clear c152
                        try clear c153
                        try clear c156
                        try clear c157
                        try clear c158
                        try clear c159
                        try clear c161
                        try clear c162
                        try clear c163
                        try clear c166
                        try clear c167
                        try clear c168
                        try clear c169
                        try clear c171
                        try clear c172
                        try clear c173
                        try clear hcz103_0
                        try clear hcz106_0
                        try clear hcz115_0
                        try clear hcz117_0
                        try clear hcz126_0
                        try clear hcz128_0
                        try clear hcz132_0
                        try clear hcz142_0
                        try clear hcz14_0
                        try clear hcz150_0
                        try clear hcz154_0
                        try clear hcz160_0
                        try clear hcz164_0
                        try clear hcz16_0
                        try clear hcz170_0
                        try clear hcz174_0
                        try clear hcz23_0
                        try clear hcz24_0
                        try clear hcz30_0
                        try clear hcz37_0
                        try clear hcz44_0
                        try clear hcz47_0
                        try clear hcz52_0
                        try clear hcz55_0
                        try clear hcz60_0
                        try clear hcz63_0
                        try clear hcz6_0
                        try clear hcz78_0
                        try clear hcz87_0
                        try clear hcz90_0
                        try clear hcz95_0
                        try clear hcz98_0
                        try clear hfz103_0
                        try clear hfz106_0
                        try clear hfz115_0
                        try clear hfz117_0
                        try clear hfz126_0
                        try clear hfz128_0
                        try clear hfz132_0
                        try clear hfz142_0
                        try clear hfz14_0
                        try clear hfz150_0
                        try clear hfz154_0
                        try clear hfz160_0
                        try clear hfz164_0
                        try clear hfz16_0
                        try clear hfz170_0
                        try clear hfz174_0
                        try clear hfz23_0
                        try clear hfz24_0
                        try clear hfz30_0
                        try clear hfz37_0
                        try clear hfz44_0
                        try clear hfz47_0
                        try clear hfz52_0
                        try clear hfz55_0
                        try clear hfz60_0
                        try clear hfz63_0
                        try clear hfz6_0
                        try clear hfz78_0
                        try clear hfz87_0
                        try clear hfz90_0
                        try clear hfz95_0
                        try clear hfz98_0
                        try clear p2
                        obtain ⟨kq, x113_121, rfl, HA, HJ121, HO_169000, HO_173000, HO_179000, HO_199000, BK158, BK168, BK172, BK178, BK198, HB⟩ := hcut
                        have hl179000_121 := (Kd.R_reads' HO_179000.out).1
                        rw [hl179000_121] at HO_179000
                        (try simp only [hl179000_121])
                        (try simp only [hl179000_121] at BK158)
                        (try simp only [hl179000_121] at BK168)
                        (try simp only [hl179000_121] at BK172)
                        (try simp only [hl179000_121] at BK178)
                        (try simp only [hl179000_121] at BK198)
                        (try simp only [hl179000_121] at HO_169000)
                        (try simp only [hl179000_121] at HO_173000)
                        (try simp only [hl179000_121] at HO_199000)
                        cases kq with
                        | zero => exact absurd HA.out (by simp [laws_FnExactTableAdd.j2])
                        | succ kj121 =>
                          have H := HA.out
                          clear HA
                          simp only [laws_FnExactTableAdd.j2] at H
                          by_cases c176 : x113_121 = true
                          · subst c176
                            have H1 : (some false) = some r := by rw [if_pos rfl] at H; exact H
                            clear H
                            have H := H1
                            clear H1
                            obtain rfl := Option.some.inj H
                            go_wp2
                            go_ret
                            exact ⟨by first | rfl | (simp [errW_none, errW_some] <;> rfl) | (simp [*, errW_none, errW_some] <;> rfl), by repeat (first | (with_reducible first | exact HB.out | apply below_alloc | apply pw_below_drewN | apply below_drew1 | refine below_set ?_ GE158.out | refine below_set ?_ GE168.out | refine below_set ?_ GE172.out | refine below_set ?_ GE178.out | refine below_set ?_ GE198.out) | exact HB.out)⟩
                          · replace c176 := Bool.eq_false_iff.mpr c176
                            subst c176
                            have H1 : ((laws_heldTable.f kj121 t188 1).bind fun t200 => (if t200 < 0 then (some false) else (if t200 = t187 then (some true) else (some false)))) = some r := by rw [if_neg (show ¬ (false = true) by decide)] at H; exact H
                            clear H
                            have H := H1
                            clear H1
                            replace H := Option.bind_eq_some_iff.mp H
                            obtain ⟨t200, A1770, H⟩ := H
                            replace H : (if t200 < 0 then (some false) else (if t200 = t187 then (some true) else (some false))) = some r := H
                            have A177 := Aside0.mk A1770
                            clear A1770
                            by_cases c178 : t200 < 0
                            · rw [if_pos c178] at H
                              have c178b0 : decide (t200 < 0) = true := decide_eq_true c178
                              clear c178
                              obtain rfl := Option.some.inj H
                              have hnb179 := NB178_158.out
                              have hnc179 := NB158_178.out
                              have hnb180 := NB178_168.out
                              have hnc180 := NB168_178.out
                              have hnb181 := NB178_172.out
                              have hnc181 := NB172_178.out
                              have hnb182 := NB178_198.out
                              have hnc182 := NB198_178.out
                              have hcz183_0 : wc.cell? ⟨gb178, 0, none⟩ = some (.slice Ao33 t188.length co33) := (blk_cell BK178.out 0).trans rfl
                              have hfz183_0 := blk_frozen BK178.out 0
                              go_wp2_with (first | ((with_reducible refine gate_callee (f := 32) rfl ?_); refine goesL_ (some 116) rfl rfl Try.func32 (by kernel_rfl) rfl #[.agg #[.slice Ao33 t188.length co33], .int .i64 1] rfl (by (try simp only [List.map_toArray, List.map_cons, List.map_nil]); first | done | rfl | (simp only [List.length_drop, List.length_take]; rfl)) ?_; (with_reducible refine (laws_heldTable.calls kj121 _ _ t188 1 t200 _ ?side1 ?side2 A177.out).mono ?_); (case side1 => repeat (first | exact (Kd.R_reads' HO_179000.out).2.2 | (with_reducible refine Kd.C_alloc ?_ _) | (with_reducible refine Kd.C_drewN ?_ _) | (with_reducible refine Kd.C_drew ?_))); (case side2 => exact (Kd.R_reads' HO_179000.out).2.1); rintro e w184 ⟨rfl, hb⟩; refine ⟨_, rfl, ?_⟩; have n0_ := Aside0.mk (Kd.R_below (by (with_reducible repeat (first | apply Kd.R_alloc | apply Kd.R_drewN | apply Kd.R_drew)); exact HO_169000.out) hb); have n1_ := Aside0.mk (Kd.R_below (by (with_reducible repeat (first | apply Kd.R_alloc | apply Kd.R_drewN | apply Kd.R_drew)); exact HO_173000.out) hb); have n2_ := Aside0.mk (Kd.R_below (by (with_reducible repeat (first | apply Kd.R_alloc | apply Kd.R_drewN | apply Kd.R_drew)); exact HO_179000.out) hb); have n3_ := Aside0.mk (Kd.R_below (by (with_reducible repeat (first | apply Kd.R_alloc | apply Kd.R_drewN | apply Kd.R_drew)); exact HO_199000.out) hb); have n4_ := Aside0.mk (blk_below (g := gb158) (o := .cells #[.slice A0_0 l0_0.length c0_0] 33 (0, 0)) (by (with_reducible repeat (first | refine blk_drewN ?_ _ | refine blk_drew ?_ | refine blk_alloc ?_ _)); exact BK158.out) hb); have n5_ := Aside0.mk (blk_below (g := gb168) (o := .cells #[.slice Ao21 t163.length co21] 36 (0, 0)) (by (with_reducible repeat (first | refine blk_drewN ?_ _ | refine blk_drew ?_ | refine blk_alloc ?_ _)); exact BK168.out) hb); have n6_ := Aside0.mk (blk_below (g := gb172) (o := .cells #[.slice Ao27 t185.length co27] 36 (0, 0)) (by (with_reducible repeat (first | refine blk_drewN ?_ _ | refine blk_drew ?_ | refine blk_alloc ?_ _)); exact BK172.out) hb); have n7_ := Aside0.mk (blk_below (g := gb178) (o := .cells #[.slice Ao33 t188.length co33] 36 (0, 0)) (by (with_reducible repeat (first | refine blk_drewN ?_ _ | refine blk_drew ?_ | refine blk_alloc ?_ _)); exact BK178.out) hb); have n8_ := Aside0.mk (blk_below (g := gb198) (o := .cells #[.slice Ao137 t193.length co137] 36 (0, 0)) (by (with_reducible repeat (first | refine blk_drewN ?_ _ | refine blk_drew ?_ | refine blk_alloc ?_ _)); exact BK198.out) hb); have n9_ := Aside0.mk (below_step (by repeat (first | (with_reducible first | exact HB.out | apply below_alloc | apply pw_below_drewN | apply below_drew1 | refine below_set ?_ GE158.out | refine below_set ?_ GE168.out | refine below_set ?_ GE172.out | refine below_set ?_ GE178.out | refine below_set ?_ GE198.out) | exact HB.out)) hb); clear HO_169000; clear HO_173000; clear HO_179000; clear HO_199000; clear BK158; clear BK168; clear BK172; clear BK178; clear BK198; clear HB; have HO_169000 := n0_; have HO_173000 := n1_; have HO_179000 := n2_; have HO_199000 := n3_; have BK158 := n4_; have BK168 := n5_; have BK172 := n6_; have BK178 := n7_; have BK198 := n8_; have HB := n9_; clear n0_ n1_ n2_ n3_ n4_ n5_ n6_ n7_ n8_ n9_; (try clear hb); (try clear hb2); (try clear hk); (try clear hi)))
                              go_ret
                              exact ⟨by first | rfl | (simp [errW_none, errW_some] <;> rfl) | (simp [*, errW_none, errW_some] <;> rfl), by repeat (first | (with_reducible first | exact HB.out | apply below_alloc | apply pw_below_drewN | apply below_drew1 | refine below_set ?_ GE158.out | refine below_set ?_ GE168.out | refine below_set ?_ GE172.out | refine below_set ?_ GE178.out | refine below_set ?_ GE198.out) | exact HB.out)⟩
                            · rw [if_neg c178] at H
                              have c178b0 : decide (t200 < 0) = false := decide_eq_false c178
                              clear c178
                              by_cases c185 : t200 = t187
                              · rw [if_pos c185] at H
                                have c185b0 : (t200 == t187) = true := beq_iff_eq.mpr c185
                                have c185b1 : (t200 != t187) = false := bne_eq_false_iff_eq.mpr c185
                                clear c185
                                obtain rfl := Option.some.inj H
                                have hnb186 := NB178_158.out
                                have hnc186 := NB158_178.out
                                have hnb187 := NB178_168.out
                                have hnc187 := NB168_178.out
                                have hnb188 := NB178_172.out
                                have hnc188 := NB172_178.out
                                have hnb189 := NB178_198.out
                                have hnc189 := NB198_178.out
                                have hcz190_0 : wc.cell? ⟨gb178, 0, none⟩ = some (.slice Ao33 t188.length co33) := (blk_cell BK178.out 0).trans rfl
                                have hfz190_0 := blk_frozen BK178.out 0
                                go_wp2_with (first | ((with_reducible refine gate_callee (f := 32) rfl ?_); refine goesL_ (some 116) rfl rfl Try.func32 (by kernel_rfl) rfl #[.agg #[.slice Ao33 t188.length co33], .int .i64 1] rfl (by (try simp only [List.map_toArray, List.map_cons, List.map_nil]); first | done | rfl | (simp only [List.length_drop, List.length_take]; rfl)) ?_; (with_reducible refine (laws_heldTable.calls kj121 _ _ t188 1 t200 _ ?side1 ?side2 A177.out).mono ?_); (case side1 => repeat (first | exact (Kd.R_reads' HO_179000.out).2.2 | (with_reducible refine Kd.C_alloc ?_ _) | (with_reducible refine Kd.C_drewN ?_ _) | (with_reducible refine Kd.C_drew ?_))); (case side2 => exact (Kd.R_reads' HO_179000.out).2.1); rintro e w191 ⟨rfl, hb⟩; refine ⟨_, rfl, ?_⟩; have n0_ := Aside0.mk (Kd.R_below (by (with_reducible repeat (first | apply Kd.R_alloc | apply Kd.R_drewN | apply Kd.R_drew)); exact HO_169000.out) hb); have n1_ := Aside0.mk (Kd.R_below (by (with_reducible repeat (first | apply Kd.R_alloc | apply Kd.R_drewN | apply Kd.R_drew)); exact HO_173000.out) hb); have n2_ := Aside0.mk (Kd.R_below (by (with_reducible repeat (first | apply Kd.R_alloc | apply Kd.R_drewN | apply Kd.R_drew)); exact HO_179000.out) hb); have n3_ := Aside0.mk (Kd.R_below (by (with_reducible repeat (first | apply Kd.R_alloc | apply Kd.R_drewN | apply Kd.R_drew)); exact HO_199000.out) hb); have n4_ := Aside0.mk (blk_below (g := gb158) (o := .cells #[.slice A0_0 l0_0.length c0_0] 33 (0, 0)) (by (with_reducible repeat (first | refine blk_drewN ?_ _ | refine blk_drew ?_ | refine blk_alloc ?_ _)); exact BK158.out) hb); have n5_ := Aside0.mk (blk_below (g := gb168) (o := .cells #[.slice Ao21 t163.length co21] 36 (0, 0)) (by (with_reducible repeat (first | refine blk_drewN ?_ _ | refine blk_drew ?_ | refine blk_alloc ?_ _)); exact BK168.out) hb); have n6_ := Aside0.mk (blk_below (g := gb172) (o := .cells #[.slice Ao27 t185.length co27] 36 (0, 0)) (by (with_reducible repeat (first | refine blk_drewN ?_ _ | refine blk_drew ?_ | refine blk_alloc ?_ _)); exact BK172.out) hb); have n7_ := Aside0.mk (blk_below (g := gb178) (o := .cells #[.slice Ao33 t188.length co33] 36 (0, 0)) (by (with_reducible repeat (first | refine blk_drewN ?_ _ | refine blk_drew ?_ | refine blk_alloc ?_ _)); exact BK178.out) hb); have n8_ := Aside0.mk (blk_below (g := gb198) (o := .cells #[.slice Ao137 t193.length co137] 36 (0, 0)) (by (with_reducible repeat (first | refine blk_drewN ?_ _ | refine blk_drew ?_ | refine blk_alloc ?_ _)); exact BK198.out) hb); have n9_ := Aside0.mk (below_step (by repeat (first | (with_reducible first | exact HB.out | apply below_alloc | apply pw_below_drewN | apply below_drew1 | refine below_set ?_ GE158.out | refine below_set ?_ GE168.out | refine below_set ?_ GE172.out | refine below_set ?_ GE178.out | refine below_set ?_ GE198.out) | exact HB.out)) hb); clear HO_169000; clear HO_173000; clear HO_179000; clear HO_199000; clear BK158; clear BK168; clear BK172; clear BK178; clear BK198; clear HB; have HO_169000 := n0_; have HO_173000 := n1_; have HO_179000 := n2_; have HO_199000 := n3_; have BK158 := n4_; have BK168 := n5_; have BK172 := n6_; have BK178 := n7_; have BK198 := n8_; have HB := n9_; clear n0_ n1_ n2_ n3_ n4_ n5_ n6_ n7_ n8_ n9_; (try clear hb); (try clear hb2); (try clear hk); (try clear hi)))
                                go_ret
                                exact ⟨by first | rfl | (simp [errW_none, errW_some] <;> rfl) | (simp [*, errW_none, errW_some] <;> rfl), by repeat (first | (with_reducible first | exact HB.out | apply below_alloc | apply pw_below_drewN | apply below_drew1 | refine below_set ?_ GE158.out | refine below_set ?_ GE168.out | refine below_set ?_ GE172.out | refine below_set ?_ GE178.out | refine below_set ?_ GE198.out) | exact HB.out)⟩
                              · rw [if_neg c185] at H
                                have c185b0 : (t200 == t187) = false := beq_eq_false_iff_ne.mpr c185
                                have c185b1 : (t200 != t187) = true := bne_iff_ne.mpr c185
                                obtain rfl := Option.some.inj H
                                have hnb192 := NB178_158.out
                                have hnc192 := NB158_178.out
                                have hnb193 := NB178_168.out
                                have hnc193 := NB168_178.out
                                have hnb194 := NB178_172.out
                                have hnc194 := NB172_178.out
                                have hnb195 := NB178_198.out
                                have hnc195 := NB198_178.out
                                have hcz196_0 : wc.cell? ⟨gb178, 0, none⟩ = some (.slice Ao33 t188.length co33) := (blk_cell BK178.out 0).trans rfl
                                have hfz196_0 := blk_frozen BK178.out 0
                                go_wp2_with (first | ((with_reducible refine gate_callee (f := 32) rfl ?_); refine goesL_ (some 116) rfl rfl Try.func32 (by kernel_rfl) rfl #[.agg #[.slice Ao33 t188.length co33], .int .i64 1] rfl (by (try simp only [List.map_toArray, List.map_cons, List.map_nil]); first | done | rfl | (simp only [List.length_drop, List.length_take]; rfl)) ?_; (with_reducible refine (laws_heldTable.calls kj121 _ _ t188 1 t200 _ ?side1 ?side2 A177.out).mono ?_); (case side1 => repeat (first | exact (Kd.R_reads' HO_179000.out).2.2 | (with_reducible refine Kd.C_alloc ?_ _) | (with_reducible refine Kd.C_drewN ?_ _) | (with_reducible refine Kd.C_drew ?_))); (case side2 => exact (Kd.R_reads' HO_179000.out).2.1); rintro e w197 ⟨rfl, hb⟩; refine ⟨_, rfl, ?_⟩; have n0_ := Aside0.mk (Kd.R_below (by (with_reducible repeat (first | apply Kd.R_alloc | apply Kd.R_drewN | apply Kd.R_drew)); exact HO_169000.out) hb); have n1_ := Aside0.mk (Kd.R_below (by (with_reducible repeat (first | apply Kd.R_alloc | apply Kd.R_drewN | apply Kd.R_drew)); exact HO_173000.out) hb); have n2_ := Aside0.mk (Kd.R_below (by (with_reducible repeat (first | apply Kd.R_alloc | apply Kd.R_drewN | apply Kd.R_drew)); exact HO_179000.out) hb); have n3_ := Aside0.mk (Kd.R_below (by (with_reducible repeat (first | apply Kd.R_alloc | apply Kd.R_drewN | apply Kd.R_drew)); exact HO_199000.out) hb); have n4_ := Aside0.mk (blk_below (g := gb158) (o := .cells #[.slice A0_0 l0_0.length c0_0] 33 (0, 0)) (by (with_reducible repeat (first | refine blk_drewN ?_ _ | refine blk_drew ?_ | refine blk_alloc ?_ _)); exact BK158.out) hb); have n5_ := Aside0.mk (blk_below (g := gb168) (o := .cells #[.slice Ao21 t163.length co21] 36 (0, 0)) (by (with_reducible repeat (first | refine blk_drewN ?_ _ | refine blk_drew ?_ | refine blk_alloc ?_ _)); exact BK168.out) hb); have n6_ := Aside0.mk (blk_below (g := gb172) (o := .cells #[.slice Ao27 t185.length co27] 36 (0, 0)) (by (with_reducible repeat (first | refine blk_drewN ?_ _ | refine blk_drew ?_ | refine blk_alloc ?_ _)); exact BK172.out) hb); have n7_ := Aside0.mk (blk_below (g := gb178) (o := .cells #[.slice Ao33 t188.length co33] 36 (0, 0)) (by (with_reducible repeat (first | refine blk_drewN ?_ _ | refine blk_drew ?_ | refine blk_alloc ?_ _)); exact BK178.out) hb); have n8_ := Aside0.mk (blk_below (g := gb198) (o := .cells #[.slice Ao137 t193.length co137] 36 (0, 0)) (by (with_reducible repeat (first | refine blk_drewN ?_ _ | refine blk_drew ?_ | refine blk_alloc ?_ _)); exact BK198.out) hb); have n9_ := Aside0.mk (below_step (by repeat (first | (with_reducible first | exact HB.out | apply below_alloc | apply pw_below_drewN | apply below_drew1 | refine below_set ?_ GE158.out | refine below_set ?_ GE168.out | refine below_set ?_ GE172.out | refine below_set ?_ GE178.out | refine below_set ?_ GE198.out) | exact HB.out)) hb); clear HO_169000; clear HO_173000; clear HO_179000; clear HO_199000; clear BK158; clear BK168; clear BK172; clear BK178; clear BK198; clear HB; have HO_169000 := n0_; have HO_173000 := n1_; have HO_179000 := n2_; have HO_199000 := n3_; have BK158 := n4_; have BK168 := n5_; have BK172 := n6_; have BK178 := n7_; have BK198 := n8_; have HB := n9_; clear n0_ n1_ n2_ n3_ n4_ n5_ n6_ n7_ n8_ n9_; (try clear hb); (try clear hb2); (try clear hk); (try clear hi)))
                                go_ret
                                exact ⟨by first | rfl | (simp [errW_none, errW_some] <;> rfl) | (simp [*, errW_none, errW_some] <;> rfl), by repeat (first | (with_reducible first | exact HB.out | apply below_alloc | apply pw_below_drewN | apply below_drew1 | refine below_set ?_ GE158.out | refine below_set ?_ GE168.out | refine below_set ?_ GE172.out | refine below_set ?_ GE178.out | refine below_set ?_ GE198.out) | exact HB.out)⟩
                    · rw [if_neg c119] at H
                      have c119b0 : (t189 == t187) = false := beq_eq_false_iff_ne.mpr c119
                      have c119b1 : (t189 != t187) = true := bne_iff_ne.mpr c119
                      obtain rfl := Option.some.inj H
                      have hnb198 := NB178_158.out
                      have hnc198 := NB158_178.out
                      have hnb199 := NB178_168.out
                      have hnc199 := NB168_178.out
                      have hnb200 := NB178_172.out
                      have hnc200 := NB172_178.out
                      have hcz201_0 : wc.cell? ⟨gb178, 0, none⟩ = some (.slice Ao33 t173.length co33) := (blk_cell BK178.out 0).trans rfl
                      have hfz201_0 := blk_frozen BK178.out 0
                      go_wp2_with (first | ((with_reducible refine gate_callee (f := 31) rfl ?_); refine goesL_ (some 83) rfl rfl Try.func31 (by kernel_rfl) rfl #[.agg #[.slice Ao33 t173.length co33], .int .i64 1] rfl (by (try simp only [List.map_toArray, List.map_cons, List.map_nil]); first | done | rfl | (simp only [List.length_drop, List.length_take]; rfl)) ?_; (with_reducible refine (laws_markTable.calls kj69 (fun k_ => some k_ = (.slice Ao33 t173.length co33 : Value).ownBlock) (.slice Ao33 t173.length co33) t173 1 t187 t188 w _ ?side1 ?side2 A109.out).mono ?_); (case side1 => repeat (first | (with_reducible first | exact HB.out | apply below_alloc | apply pw_below_drewN | apply below_drew1 | refine below_set ?_ GE158.out | refine below_set ?_ GE168.out | refine below_set ?_ GE172.out | refine below_set ?_ GE178.out) | exact HB.out)); (case side2 => exact Kd.R_tight rfl HO_179000.out); rintro e w202 ⟨rfl, hy0, hb, hkp⟩; refine ⟨_, rfl, ?_⟩; have n0_ := Aside0.mk (Kd.R_mono (ok' := fun k_ => some k_ ≠ (.slice Ao27 t185.length co27 : Value).ownBlock ∧ some k_ ≠ (.slice Ao33 t173.length co33 : Value).ownBlock) (Kd.R_keptB (HO_169000.out) hkp (fun k_ hk_ hs_ => (hk_.2) hs_)) (fun k_ hk_ => ⟨hk_.1.1, hk_.1.2⟩)); have n1_ := Aside0.mk (Kd.R_mono (ok' := fun k_ => some k_ ≠ (.slice Ao21 t163.length co21 : Value).ownBlock ∧ some k_ ≠ (.slice Ao33 t173.length co33 : Value).ownBlock) (Kd.R_keptB (HO_173000.out) hkp (fun k_ hk_ hs_ => (hk_.2) hs_)) (fun k_ hk_ => ⟨hk_.1.1, hk_.1.2⟩)); have n2_ := Aside0.mk (Kd.R_reok rfl hy0 (fun k_ e_ => HO_179000.out.1 k_ e_)); have n3_ := Aside0.mk (blk_kept (by (with_reducible repeat (first | refine blk_drewN ?_ _ | refine blk_drew ?_ | refine blk_alloc ?_ _)); exact BK158.out) hkp (fun hs_ => (fun e_ => (Kd.R_ne HO_179000.out BK158.out (by decide)) e_) hs_)); have n4_ := Aside0.mk (blk_kept (by (with_reducible repeat (first | refine blk_drewN ?_ _ | refine blk_drew ?_ | refine blk_alloc ?_ _)); exact BK168.out) hkp (fun hs_ => (fun e_ => (Kd.R_ne HO_179000.out BK168.out (by decide)) e_) hs_)); have n5_ := Aside0.mk (blk_kept (by (with_reducible repeat (first | refine blk_drewN ?_ _ | refine blk_drew ?_ | refine blk_alloc ?_ _)); exact BK172.out) hkp (fun hs_ => (fun e_ => (Kd.R_ne HO_179000.out BK172.out (by decide)) e_) hs_)); have n6_ := Aside0.mk (blk_kept (by (with_reducible repeat (first | refine blk_drewN ?_ _ | refine blk_drew ?_ | refine blk_alloc ?_ _)); exact BK178.out) hkp (fun hs_ => (fun e_ => (Kd.R_ne HO_179000.out BK178.out (by decide)) e_) hs_)); have n7_ := Aside0.mk (hb); clear HO_169000; clear HO_173000; clear HO_179000; clear BK158; clear BK168; clear BK172; clear BK178; clear HB; have HO_169000 := n0_; have HO_173000 := n1_; have HO_179000 := n2_; have BK158 := n3_; have BK168 := n4_; have BK172 := n5_; have BK178 := n6_; have HB := n7_; clear n0_ n1_ n2_ n3_ n4_ n5_ n6_ n7_; (try clear hb); (try clear hkp); (try clear hy0); have hcz203_0 : w202.cell? ⟨gb178, 0, none⟩ = some (.slice Ao33 t173.length co33) := (blk_cell BK178.out 0).trans rfl; have hfz203_0 := blk_frozen BK178.out 0) | ((with_reducible refine gate_callee (f := 32) rfl ?_); refine goesL_ (some 86) rfl rfl Try.func32 (by kernel_rfl) rfl #[.agg #[.slice Ao33 t188.length co33], .int .i64 1] rfl (by (try simp only [List.map_toArray, List.map_cons, List.map_nil]); first | done | (rw [show t188.length = t173.length from (Kd.R_reads' HO_179000.out).1.symm] <;> rfl) | rfl | (simp only [List.length_drop, List.length_take]; rfl)) ?_; (with_reducible refine (laws_heldTable.calls kj69 _ _ t188 1 t189 _ ?side1 ?side2 A110.out).mono ?_); (case side1 => repeat (first | exact (Kd.R_reads' HO_179000.out).2.2 | (with_reducible refine Kd.C_alloc ?_ _) | (with_reducible refine Kd.C_drewN ?_ _) | (with_reducible refine Kd.C_drew ?_))); (case side2 => rw [show t188.length = t173.length from (Kd.R_reads' HO_179000.out).1.symm]; exact (Kd.R_reads' HO_179000.out).2.1); rintro e w204 ⟨rfl, hb⟩; refine ⟨_, rfl, ?_⟩; have n0_ := Aside0.mk (Kd.R_below (by (with_reducible repeat (first | apply Kd.R_alloc | apply Kd.R_drewN | apply Kd.R_drew)); exact HO_169000.out) hb); have n1_ := Aside0.mk (Kd.R_below (by (with_reducible repeat (first | apply Kd.R_alloc | apply Kd.R_drewN | apply Kd.R_drew)); exact HO_173000.out) hb); have n2_ := Aside0.mk (Kd.R_below (by (with_reducible repeat (first | apply Kd.R_alloc | apply Kd.R_drewN | apply Kd.R_drew)); exact HO_179000.out) hb); have n3_ := Aside0.mk (blk_below (g := gb158) (o := .cells #[.slice A0_0 l0_0.length c0_0] 33 (0, 0)) (by (with_reducible repeat (first | refine blk_drewN ?_ _ | refine blk_drew ?_ | refine blk_alloc ?_ _)); exact BK158.out) hb); have n4_ := Aside0.mk (blk_below (g := gb168) (o := .cells #[.slice Ao21 t163.length co21] 36 (0, 0)) (by (with_reducible repeat (first | refine blk_drewN ?_ _ | refine blk_drew ?_ | refine blk_alloc ?_ _)); exact BK168.out) hb); have n5_ := Aside0.mk (blk_below (g := gb172) (o := .cells #[.slice Ao27 t185.length co27] 36 (0, 0)) (by (with_reducible repeat (first | refine blk_drewN ?_ _ | refine blk_drew ?_ | refine blk_alloc ?_ _)); exact BK172.out) hb); have n6_ := Aside0.mk (blk_below (g := gb178) (o := .cells #[.slice Ao33 t173.length co33] 36 (0, 0)) (by (with_reducible repeat (first | refine blk_drewN ?_ _ | refine blk_drew ?_ | refine blk_alloc ?_ _)); exact BK178.out) hb); have n7_ := Aside0.mk (below_step (by repeat (first | (with_reducible first | exact HB.out | apply below_alloc | apply pw_below_drewN | apply below_drew1 | refine below_set ?_ GE158.out | refine below_set ?_ GE168.out | refine below_set ?_ GE172.out | refine below_set ?_ GE178.out) | exact HB.out)) hb); clear HO_169000; clear HO_173000; clear HO_179000; clear BK158; clear BK168; clear BK172; clear BK178; clear HB; have HO_169000 := n0_; have HO_173000 := n1_; have HO_179000 := n2_; have BK158 := n3_; have BK168 := n4_; have BK172 := n5_; have BK178 := n6_; have HB := n7_; clear n0_ n1_ n2_ n3_ n4_ n5_ n6_ n7_; (try clear hb); (try clear hb2); (try clear hk); (try clear hi)))
                      go_ret
                      exact ⟨by first | rfl | (simp [errW_none, errW_some] <;> rfl) | (simp [*, errW_none, errW_some] <;> rfl), by repeat (first | (with_reducible first | exact HB.out | apply below_alloc | apply pw_below_drewN | apply below_drew1 | refine below_set ?_ GE158.out | refine below_set ?_ GE168.out | refine below_set ?_ GE172.out | refine below_set ?_ GE178.out) | exact HB.out)⟩
          · replace c68 := Bool.eq_false_iff.mpr c68
            subst c68
            have H1 : (some false) = some r := by rw [if_neg (show ¬ (false = true) by decide)] at H; exact H
            clear H
            have H := H1
            clear H1
            obtain rfl := Option.some.inj H
            try go_wp2
            have n0_ := Aside0.mk (Kd.R_drew HO_169000.out)
            have n1_ := Aside0.mk (Kd.R_drew HO_173000.out)
            have n2_ := Aside0.mk (Kd.R_drew HO_179000.out)
            have n3_ := Aside0.mk (blk_drew BK158.out)
            have n4_ := Aside0.mk (blk_drew BK168.out)
            have n5_ := Aside0.mk (blk_drew BK172.out)
            have n6_ := Aside0.mk (blk_drew BK178.out)
            have n7_ := Aside0.mk (below_drew1 HB.out)
            clear HO_169000
            clear HO_173000
            clear HO_179000
            clear BK158
            clear BK168
            clear BK172
            clear BK178
            clear HB
            have HO_169000 := n0_
            have HO_173000 := n1_
            have HO_179000 := n2_
            have BK158 := n3_
            have BK168 := n4_
            have BK172 := n5_
            have BK178 := n6_
            have HB := n7_
            clear n0_ n1_ n2_ n3_ n4_ n5_ n6_ n7_
            refine start_ (n := 5) (S := fun w' => w'.cell? ⟨gb172, 0, none⟩ = some (.slice Ao27 t169.length co27) ∧ w'.cell? ⟨gb158, 0, none⟩ = some (.slice A0_0 l0_0.length c0_0)) (ds := []) #[false, false, false, false, false] (by kernel_rfl) rfl rfl ⟨(blk_cell BK172.out 0).trans rfl, (blk_cell BK158.out 0).trans rfl⟩ (fun hHeld => ?_)
            generalize wc.drew = w205 at HO_169000 HO_173000 HO_179000 BK158 BK168 BK172 BK178 HB hHeld ⊢
            refine take_ (i := 0) (N := some 55) (v := ?_) (a' := ?_) #[true, false, false, false, false] rfl rfl (by kernel_rfl) (fun _ _ _ h => h) (Or.inl ⟨by rfl, ?_⟩) hHeld ?_ ?_
            rotate_left
            · rintro w' ⟨s0, s1⟩
              go_simp
              with_reducible rfl
            rotate_left
            · simp only [Act.put, List.setIfInBounds_toArray, List.set_cons_zero, List.set_cons_succ, i64_w, i32_w]
              rfl
            refine take_ (i := 1) (N := some 56) (v := ?_) (a' := ?_) #[true, true, false, false, false] rfl rfl (by kernel_rfl) (fun _ _ _ h => h) (Or.inl ⟨by rfl, ?_⟩) hHeld ?_ ?_
            rotate_left
            · rintro w' ⟨s0, s1⟩
              go_simp
              with_reducible rfl
            rotate_left
            · simp only [Act.put, List.setIfInBounds_toArray, List.set_cons_zero, List.set_cons_succ, i64_w, i32_w]
              rfl
            refine one_ (i := 2) (N := some 57) #[true, true, true, false, false] rfl rfl (by kernel_rfl) (by decide) (fun K hK => ?_)
            refine goes_ Try.func22 (by kernel_rfl) rfl #[.agg #[.slice A0_0 l0_0.length c0_0]] (by rfl) rfl rfl (by (try simp only [List.map_toArray, List.map_cons, List.map_nil]); first | done | rfl | (simp only [List.length_drop, List.length_take]; rfl)) ?_
            with_reducible refine (laws_toTable.calls kj11 _ _ l0_0 t180 _ ?side1 ?side2 A66.out).mono ?_
            (case side1 => repeat (first | exact (Kd.C_below HR0_0.out HB.out) | (with_reducible refine Kd.C_alloc ?_ _) | (with_reducible refine Kd.C_drewN ?_ _) | (with_reducible refine Kd.C_drew ?_)))
            (case side2 => exact HC0_0.out)
            rintro e w206 ⟨v181, rfl, ho0, hb⟩
            refine ⟨_, rfl, ?_⟩
            have n0_ := Aside0.mk (Kd.R_elder' (by (with_reducible repeat (first | apply Kd.R_alloc | apply Kd.R_drewN | apply Kd.R_drew)); exact HO_169000.out) (Kd.R_base ho0) hb)
            have n1_ := Aside0.mk (Kd.R_elder' (by (with_reducible repeat (first | apply Kd.R_alloc | apply Kd.R_drewN | apply Kd.R_drew)); exact HO_173000.out) (Kd.R_base ho0) hb)
            have n2_ := Aside0.mk (Kd.R_elder' (by (with_reducible repeat (first | apply Kd.R_alloc | apply Kd.R_drewN | apply Kd.R_drew)); exact HO_179000.out) (Kd.R_base ho0) hb)
            have n3_ := Aside0.mk (Kd.R_lower (Kd.R_new' (Kd.R_new' (Kd.R_new' ho0 (Kd.R_lt (by (with_reducible repeat (first | apply Kd.R_alloc | apply Kd.R_drewN | apply Kd.R_drew)); exact HO_169000.out))) (Kd.R_lt (by (with_reducible repeat (first | apply Kd.R_alloc | apply Kd.R_drewN | apply Kd.R_drew)); exact HO_173000.out))) (Kd.R_lt (by (with_reducible repeat (first | apply Kd.R_alloc | apply Kd.R_drewN | apply Kd.R_drew)); exact HO_179000.out))) (below_size (by repeat (first | (with_reducible first | exact HB.out | apply below_alloc | apply pw_below_drewN | apply below_drew1 | refine below_set ?_ GE158.out | refine below_set ?_ GE168.out | refine below_set ?_ GE172.out | refine below_set ?_ GE178.out) | exact HB.out))))
            have n4_ := Aside0.mk (blk_below (g := gb158) (o := .cells #[.slice A0_0 l0_0.length c0_0] 33 (0, 0)) (by (with_reducible repeat (first | refine blk_drewN ?_ _ | refine blk_drew ?_ | refine blk_alloc ?_ _)); exact BK158.out) hb)
            have n5_ := Aside0.mk (blk_below (g := gb168) (o := .cells #[.slice Ao21 t163.length co21] 36 (0, 0)) (by (with_reducible repeat (first | refine blk_drewN ?_ _ | refine blk_drew ?_ | refine blk_alloc ?_ _)); exact BK168.out) hb)
            have n6_ := Aside0.mk (blk_below (g := gb172) (o := .cells #[.slice Ao27 t169.length co27] 36 (0, 0)) (by (with_reducible repeat (first | refine blk_drewN ?_ _ | refine blk_drew ?_ | refine blk_alloc ?_ _)); exact BK172.out) hb)
            have n7_ := Aside0.mk (blk_below (g := gb178) (o := .cells #[.slice Ao33 t173.length co33] 36 (0, 0)) (by (with_reducible repeat (first | refine blk_drewN ?_ _ | refine blk_drew ?_ | refine blk_alloc ?_ _)); exact BK178.out) hb)
            have n8_ := Aside0.mk (below_step (by repeat (first | (with_reducible first | exact HB.out | apply below_alloc | apply pw_below_drewN | apply below_drew1 | refine below_set ?_ GE158.out | refine below_set ?_ GE168.out | refine below_set ?_ GE172.out | refine below_set ?_ GE178.out) | exact HB.out)) hb)
            clear HO_169000
            clear HO_173000
            clear HO_179000
            clear BK158
            clear BK168
            clear BK172
            clear BK178
            clear HB
            have HO_169000 := n0_
            have HO_173000 := n1_
            have HO_179000 := n2_
            have HO182 := n3_
            have BK158 := n4_
            have BK168 := n5_
            have BK172 := n6_
            have BK178 := n7_
            have HB := n8_
            clear n0_ n1_ n2_ n3_ n4_ n5_ n6_ n7_ n8_
            (try clear hb)
            (try clear hb2)
            (try clear hk)
            (try clear hi)
            (try clear ho0)
            obtain ⟨Ao207, co207, eo207⟩ := Kd.R_slice HO182.out
            (first | subst eo207 | (injection eo207 with f1_ f2_ f3_; have f4_ := f1_.symm; have f5_ := f3_.symm; clear f1_ f2_ f3_; subst f4_; subst f5_))
            refine hK.out _ _ ⟨(blk_cell BK172.out 0).trans rfl, (blk_cell BK158.out 0).trans rfl⟩ (fun hHeld => ?_)
            clear hK K
            refine norm_ (a' := ?_) ?_ ?_
            rotate_left
            · show Act.put _ (some 57) _ = _
              simp only [Act.put, List.setIfInBounds_toArray, List.set_cons_zero, List.set_cons_succ, i64_w, i32_w]
              rfl
            refine one_ (i := 3) (N := some 58) #[true, true, true, true, false] rfl rfl (by kernel_rfl) (by decide) (fun K hK => ?_)
            refine goes_ Try.func24 (by kernel_rfl) rfl #[.agg #[.slice Ao27 t169.length co27], .agg #[.slice Ao207 t180.length co207]] (by rfl) rfl rfl (by (try simp only [List.map_toArray, List.map_cons, List.map_nil]); first | done | rfl | (simp only [List.length_drop, List.length_take]; rfl)) ?_
            with_reducible refine (laws_eqTable.calls kj11 _ _ t169 _ _ t180 false _ ?side1 ?side2 ?side3 ?side4 A67.out).mono ?_
            (case side1 => repeat (first | exact (Kd.R_reads' HO_173000.out).2.2 | (with_reducible refine Kd.C_alloc ?_ _) | (with_reducible refine Kd.C_drewN ?_ _) | (with_reducible refine Kd.C_drew ?_)))
            (case side2 => exact (Kd.R_reads' HO_173000.out).2.1)
            (case side3 => repeat (first | exact (Kd.R_reads' HO182.out).2.2 | (with_reducible refine Kd.C_alloc ?_ _) | (with_reducible refine Kd.C_drewN ?_ _) | (with_reducible refine Kd.C_drew ?_)))
            (case side4 => exact (Kd.R_reads' HO182.out).2.1)
            rintro e w208 ⟨rfl, hb⟩
            refine ⟨_, rfl, ?_⟩
            have n0_ := Aside0.mk (Kd.R_below (by (with_reducible repeat (first | apply Kd.R_alloc | apply Kd.R_drewN | apply Kd.R_drew)); exact HO_169000.out) hb)
            have n1_ := Aside0.mk (Kd.R_below (by (with_reducible repeat (first | apply Kd.R_alloc | apply Kd.R_drewN | apply Kd.R_drew)); exact HO_173000.out) hb)
            have n2_ := Aside0.mk (Kd.R_below (by (with_reducible repeat (first | apply Kd.R_alloc | apply Kd.R_drewN | apply Kd.R_drew)); exact HO_179000.out) hb)
            have n3_ := Aside0.mk (Kd.R_below (by (with_reducible repeat (first | apply Kd.R_alloc | apply Kd.R_drewN | apply Kd.R_drew)); exact HO182.out) hb)
            have n4_ := Aside0.mk (blk_below (g := gb158) (o := .cells #[.slice A0_0 l0_0.length c0_0] 33 (0, 0)) (by (with_reducible repeat (first | refine blk_drewN ?_ _ | refine blk_drew ?_ | refine blk_alloc ?_ _)); exact BK158.out) hb)
            have n5_ := Aside0.mk (blk_below (g := gb168) (o := .cells #[.slice Ao21 t163.length co21] 36 (0, 0)) (by (with_reducible repeat (first | refine blk_drewN ?_ _ | refine blk_drew ?_ | refine blk_alloc ?_ _)); exact BK168.out) hb)
            have n6_ := Aside0.mk (blk_below (g := gb172) (o := .cells #[.slice Ao27 t169.length co27] 36 (0, 0)) (by (with_reducible repeat (first | refine blk_drewN ?_ _ | refine blk_drew ?_ | refine blk_alloc ?_ _)); exact BK172.out) hb)
            have n7_ := Aside0.mk (blk_below (g := gb178) (o := .cells #[.slice Ao33 t173.length co33] 36 (0, 0)) (by (with_reducible repeat (first | refine blk_drewN ?_ _ | refine blk_drew ?_ | refine blk_alloc ?_ _)); exact BK178.out) hb)
            have n8_ := Aside0.mk (below_step (by repeat (first | (with_reducible first | exact HB.out | apply below_alloc | apply pw_below_drewN | apply below_drew1 | refine below_set ?_ GE158.out | refine below_set ?_ GE168.out | refine below_set ?_ GE172.out | refine below_set ?_ GE178.out) | exact HB.out)) hb)
            clear HO_169000
            clear HO_173000
            clear HO_179000
            clear HO182
            clear BK158
            clear BK168
            clear BK172
            clear BK178
            clear HB
            have HO_169000 := n0_
            have HO_173000 := n1_
            have HO_179000 := n2_
            have HO182 := n3_
            have BK158 := n4_
            have BK168 := n5_
            have BK172 := n6_
            have BK178 := n7_
            have HB := n8_
            clear n0_ n1_ n2_ n3_ n4_ n5_ n6_ n7_ n8_
            (try clear hb)
            (try clear hb2)
            (try clear hk)
            (try clear hi)
            refine hK.out _ _ ⟨(blk_cell BK172.out 0).trans rfl, (blk_cell BK158.out 0).trans rfl⟩ (fun hHeld => ?_)
            clear hK K
            refine norm_ (a' := ?_) ?_ ?_
            rotate_left
            · show Act.put _ (some 58) _ = _
              simp only [Act.put, List.setIfInBounds_toArray, List.set_cons_zero, List.set_cons_succ, i64_w, i32_w]
              rfl
            refine pure_ (i := 4) (N := some 59) (v := ?_) (a' := ?_) #[true, true, true, true, true] rfl rfl (by kernel_rfl) (fun _ _ _ h => h) (Or.inl ⟨by rfl, ?_⟩) ?_ ?_
            rotate_left
            · intro w'
              go_simp
              with_reducible rfl
            rotate_left
            · simp only [Act.put, List.setIfInBounds_toArray, List.set_cons_zero, List.set_cons_succ, i64_w, i32_w]
              rfl
            refine done_ (by kernel_rfl) ?_
            try go_wp2
            go_ret
            exact ⟨by first | rfl | (simp [errW_none, errW_some] <;> rfl) | (simp [*, errW_none, errW_some] <;> rfl), by repeat (first | (with_reducible first | exact HB.out | apply below_alloc | apply pw_below_drewN | apply below_drew1 | refine below_set ?_ GE158.out | refine below_set ?_ GE168.out | refine below_set ?_ GE172.out | refine below_set ?_ GE178.out) | exact HB.out)⟩

/-- THE ONE PURE STATEMENT of laws_FnExactTableAdd. -/
def laws_FnExactTableAdd.Pure : Prop := ∀ (l0_0 : List Int) (a1 : Int), l0_0.length ≤ 9223372036854775807 → (∀ x ∈ l0_0, (Lit.int .i64 x).wf = true) → (Lit.int .i64 a1).wf = true → ∃ k, laws_FnExactTableAdd.f k l0_0 a1 = some true

end Go.Proofs.Ytgnjacjinhadaaa.MFnExactTableAdd
