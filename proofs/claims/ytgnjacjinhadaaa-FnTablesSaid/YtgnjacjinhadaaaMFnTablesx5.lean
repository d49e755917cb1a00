-- Written by a program of this session, out of Lean's print of the translation. Not trusted: Lean checks it.
import Derived.Test.YtgnjacjinhadaaaMFnTablesx0
import Derived.Test.YtgnjacjinhadaaaMFnTablesx1
import Derived.Test.YtgnjacjinhadaaaMFnTablesx2
import Derived.Test.YtgnjacjinhadaaaMFnTablesx3
import Derived.Test.YtgnjacjinhadaaaMFnTablesx4
namespace Go.Proofs.Ytgnjacjinhadaaa.MFnTables
open Go.RowKit Go.Proofs.YtgnjacjinhadaaaW.PrintWords Go.Proofs.YtgnjacjinhadaaaW.PrintLast Go.Proofs.YtgnjacjinhadaaaW.PrintMore
attribute [local go_sem] max2_int min2_int max_two min_two max_three min_three max_four min_four   -- for this text's walks alone
set_option linter.unusedVariables false
set_option linter.unusedSimpArgs false

/-! ### laws_FnTables: function 8 -/
mutual
def laws_FnTables.j0 : Nat → Int → Int → Bool → List Int → List Int → Option (Bool)
  | 0, _, _, _, _, _ => none
  | k + 1, x4, x6, x43, x203000, x209000 => if x43 = true then (some false) else (if x6 < 0 then (if (x209000.length : Int) = 0 then ((impl_TableFind.f k x209000 3).bind fun t215 => (some (t215 == (-1)))) else (some false)) else ((impl_TableAdd.f k x209000 x4).bind fun bt216 => (if bt216.2.1 = x6 then (if bt216.2.2 = true then (laws_FnTables.j1 k true x203000 x209000) else (if (bt216.1.length : Int) = (x209000.length : Int) then ((impl_TableFind.f k bt216.1 x4).bind fun t222 => (if t222 = x6 then ((impl_TableOk.f bt216.1).bind fun t223 => (laws_FnTables.j1 k (!t223) x203000 x209000)) else (laws_FnTables.j1 k true x203000 x209000))) else (laws_FnTables.j1 k true x203000 x209000))) else (laws_FnTables.j1 k true x203000 x209000))))
def laws_FnTables.j1 : Nat → Bool → List Int → List Int → Option (Bool)
  | 0, _, _, _ => none
  | k + 1, x88, x203000, x209000 => if x88 = true then (some false) else (laws_FnTables.l0 k 0 x203000 x209000)
def laws_FnTables.l0 : Nat → Int → List Int → List Int → Option (Bool)
  | 0, _, _, _ => none
  | k + 1, x14, x203000, x209000 => if x14 < (x203000.length : Int) then (laws_FnTables.j3 k x14 (decide (x14 < 20)) x203000 x209000) else (laws_FnTables.j3 k x14 false x203000 x209000)
def laws_FnTables.j3 : Nat → Int → Bool → List Int → List Int → Option (Bool)
  | 0, _, _, _, _ => none
  | k + 1, x14, x97, x203000, x209000 => if x97 = true then (if 0 ≤ x14 then (if x14 < (x203000.length : Int) then ((impl_TableFind.f k x209000 (rd x203000 x14)).bind fun t225 => (if t225 = x14 then (laws_FnTables.l0 k (wrap64 (x14 + 1)) x203000 x209000) else (some false))) else (none)) else (none)) else (some true)
end
def laws_FnTables.f (k : Nat) (l0 : List Int) : Option (Bool) := (laws_big.f l0).bind fun t197 => (if t197 = true then (some true) else ((spec_DrawTableAdd.f k l0).bind fun bt198 => ((impl_TableAdd.f k bt198.1 bt198.2).bind fun bt203 => ((spec_TableAdd.f k bt198.1 bt198.2).bind fun bt209 => (if bt203.2.1 = bt209.2.1 then (laws_FnTables.j0 k bt198.2 bt203.2.1 (bt203.2.2 != bt209.2.2) bt198.1 bt203.1) else (laws_FnTables.j0 k bt198.2 bt203.2.1 true bt198.1 bt203.1))))))
theorem laws_FnTables.mono_l : ∀ k, (∀ y0 y1 y2 y3 y4, LeO (laws_FnTables.j0 k y0 y1 y2 y3 y4) (laws_FnTables.j0 (k + 1) y0 y1 y2 y3 y4)) ∧ (∀ y0 y1 y2, LeO (laws_FnTables.j1 k y0 y1 y2) (laws_FnTables.j1 (k + 1) y0 y1 y2)) ∧ (∀ y0 y1 y2, LeO (laws_FnTables.l0 k y0 y1 y2) (laws_FnTables.l0 (k + 1) y0 y1 y2)) ∧ (∀ y0 y1 y2 y3, LeO (laws_FnTables.j3 k y0 y1 y2 y3) (laws_FnTables.j3 (k + 1) y0 y1 y2 y3))
  | 0 => ⟨fun _ _ _ _ _ r h => by simp [laws_FnTables.j0] at h, fun _ _ _ r h => by simp [laws_FnTables.j1] at h, fun _ _ _ r h => by simp [laws_FnTables.l0] at h, fun _ _ _ _ r h => by simp [laws_FnTables.j3] at h⟩
  | k + 1 => by
    obtain ⟨ih0, ih1, ih2, ih3⟩ := laws_FnTables.mono_l k
    refine ⟨?_, ?_, ?_, ?_⟩
    · intro y0 y1 y2 y3 y4
      unfold laws_FnTables.j0
      repeat' first
      | (with_reducible exact ih0 _ _ _ _ _)
      | (with_reducible exact ih1 _ _ _)
      | (with_reducible exact ih2 _ _ _)
      | (with_reducible exact ih3 _ _ _ _)
      | (with_reducible exact impl_TableAdd.mono _ _ _)
      | (with_reducible exact impl_TableFind.mono _ _ _)
      | (with_reducible exact spec_DrawTableAdd.mono _ _)
      | (with_reducible exact spec_TableAdd.mono _ _ _)
      | (with_reducible exact LeO.refl _)
      | (with_reducible exact LeO.none _)
      | (with_reducible refine LeO.ite ?_ ?_)
      | (with_reducible refine LeO.bind ?_ (fun _ => ?_))
      | exact ih0 _ _ _ _ _
      | exact ih1 _ _ _
      | exact ih2 _ _ _
      | exact ih3 _ _ _ _
      | exact impl_TableAdd.mono _ _ _
      | exact impl_TableFind.mono _ _ _
      | exact spec_DrawTableAdd.mono _ _
      | exact spec_TableAdd.mono _ _ _
      | exact LeO.none _
      | refine LeO.ite ?_ ?_
      | refine LeO.bind ?_ (fun _ => ?_)
    · intro y0 y1 y2
      unfold laws_FnTables.j1
      repeat' first
      | (with_reducible exact ih0 _ _ _ _ _)
      | (with_reducible exact ih1 _ _ _)
      | (with_reducible exact ih2 _ _ _)
      | (with_reducible exact ih3 _ _ _ _)
      | (with_reducible exact impl_TableAdd.mono _ _ _)
      | (with_reducible exact impl_TableFind.mono _ _ _)
      | (with_reducible exact spec_DrawTableAdd.mono _ _)
      | (with_reducible exact spec_TableAdd.mono _ _ _)
      | (with_reducible exact LeO.refl _)
      | (with_reducible exact LeO.none _)
      | (with_reducible refine LeO.ite ?_ ?_)
      | (with_reducible refine LeO.bind ?_ (fun _ => ?_))
      | exact ih0 _ _ _ _ _
      | exact ih1 _ _ _
      | exact ih2 _ _ _
      | exact ih3 _ _ _ _
      | exact impl_TableAdd.mono _ _ _
      | exact impl_TableFind.mono _ _ _
      | exact spec_DrawTableAdd.mono _ _
      | exact spec_TableAdd.mono _ _ _
      | exact LeO.none _
      | refine LeO.ite ?_ ?_
      | refine LeO.bind ?_ (fun _ => ?_)
    · intro y0 y1 y2
      unfold laws_FnTables.l0
      repeat' first
      | (with_reducible exact ih0 _ _ _ _ _)
      | (with_reducible exact ih1 _ _ _)
      | (with_reducible exact ih2 _ _ _)
      | (with_reducible exact ih3 _ _ _ _)
      | (with_reducible exact impl_TableAdd.mono _ _ _)
      | (with_reducible exact impl_TableFind.mono _ _ _)
      | (with_reducible exact spec_DrawTableAdd.mono _ _)
      | (with_reducible exact spec_TableAdd.mono _ _ _)
      | (with_reducible exact LeO.refl _)
      | (with_reducible exact LeO.none _)
      | (with_reducible refine LeO.ite ?_ ?_)
      | (with_reducible refine LeO.bind ?_ (fun _ => ?_))
      | exact ih0 _ _ _ _ _
      | exact ih1 _ _ _
      | exact ih2 _ _ _
      | exact ih3 _ _ _ _
      | exact impl_TableAdd.mono _ _ _
      | exact impl_TableFind.mono _ _ _
      | exact spec_DrawTableAdd.mono _ _
      | exact spec_TableAdd.mono _ _ _
      | exact LeO.none _
      | refine LeO.ite ?_ ?_
      | refine LeO.bind ?_ (fun _ => ?_)
    · intro y0 y1 y2 y3
      unfold laws_FnTables.j3
      repeat' first
      | (with_reducible exact ih0 _ _ _ _ _)
      | (with_reducible exact ih1 _ _ _)
      | (with_reducible exact ih2 _ _ _)
      | (with_reducible exact ih3 _ _ _ _)
      | (with_reducible exact impl_TableAdd.mono _ _ _)
      | (with_reducible exact impl_TableFind.mono _ _ _)
      | (with_reducible exact spec_DrawTableAdd.mono _ _)
      | (with_reducible exact spec_TableAdd.mono _ _ _)
      | (with_reducible exact LeO.refl _)
      | (with_reducible exact LeO.none _)
      | (with_reducible refine LeO.ite ?_ ?_)
      | (with_reducible refine LeO.bind ?_ (fun _ => ?_))
      | exact ih0 _ _ _ _ _
      | exact ih1 _ _ _
      | exact ih2 _ _ _
      | exact ih3 _ _ _ _
      | exact impl_TableAdd.mono _ _ _
      | exact impl_TableFind.mono _ _ _
      | exact spec_DrawTableAdd.mono _ _
      | exact spec_TableAdd.mono _ _ _
      | exact LeO.none _
      | refine LeO.ite ?_ ?_
      | refine LeO.bind ?_ (fun _ => ?_)
theorem laws_FnTables.mono : ∀ a0 k, LeO (laws_FnTables.f k a0) (laws_FnTables.f (k + 1) a0) := by
  intro a0 k
  obtain ⟨ih0, ih1, ih2, ih3⟩ := laws_FnTables.mono_l k
  unfold laws_FnTables.f
  repeat' first
      | (with_reducible exact ih0 _ _ _ _ _)
      | (with_reducible exact ih1 _ _ _)
      | (with_reducible exact ih2 _ _ _)
      | (with_reducible exact ih3 _ _ _ _)
      | (with_reducible exact impl_TableAdd.mono _ _ _)
      | (with_reducible exact impl_TableFind.mono _ _ _)
      | (with_reducible exact spec_DrawTableAdd.mono _ _)
      | (with_reducible exact spec_TableAdd.mono _ _ _)
      | (with_reducible exact LeO.refl _)
      | (with_reducible exact LeO.none _)
      | (with_reducible refine LeO.ite ?_ ?_)
      | (with_reducible refine LeO.bind ?_ (fun _ => ?_))
      | exact ih0 _ _ _ _ _
      | exact ih1 _ _ _
      | exact ih2 _ _ _
      | exact ih3 _ _ _ _
      | exact impl_TableAdd.mono _ _ _
      | exact impl_TableFind.mono _ _ _
      | exact spec_DrawTableAdd.mono _ _
      | exact spec_TableAdd.mono _ _ _
      | exact LeO.none _
      | refine LeO.ite ?_ ?_
      | refine LeO.bind ?_ (fun _ => ?_)
def laws_FnTables.T16 : Bool × List (List Nat × List Nat) := (true, [([], []), ([], []), ([1], [1]), ([], []), ([2, 3], [2, 3]), ([4], [4]), ([0, 5], [0, 5]), ([], []), ([6, 7], [6, 7])])
def laws_FnTables.B16 : List Nat := [0, 0, 2, 0, 14, 30, 63, 0, 255]
theorem laws_FnTables.tab16 : rtab .any (opsOf Try.f8 16) = laws_FnTables.T16 := by kernel_rfl
theorem laws_FnTables.bits16 : waitsOk laws_FnTables.T16.2 laws_FnTables.B16 = true := by kernel_rfl
set_option maxHeartbeats 8000000 in
set_option maxRecDepth 100000 in
theorem laws_FnTables.calls (k : Nat) (A0 : Option Addr) (c0 : Nat) (l0 : List Int) (r : Bool) (w : World) (hr0 : Kd.C (Kd.int .u8) w A0 l0.length l0) (hc0 : l0.length ≤ c0) (h : laws_FnTables.f k l0 = some r) :
    Calls Try.prog 8 #[.slice A0 l0.length c0] w fun e w' => e = .returned (.bool r) ∧ Below w.heap.size w w' := by
  have hu36 := Try.underlying36
  have HR0 := Aside0.mk hr0
  have HC0 := Aside0.mk hc0
  clear hr0 hc0
  have HB := Aside0.mk (Below.refl w.heap.size w)
  have H : ((laws_big.f l0).bind fun t197 => (if t197 = true then (some true) else ((spec_DrawTableAdd.f k l0).bind fun bt198 => ((impl_TableAdd.f k bt198.1 bt198.2).bind fun bt203 => ((spec_TableAdd.f k bt198.1 bt198.2).bind fun bt209 => (if bt203.2.1 = bt209.2.1 then (laws_FnTables.j0 k bt198.2 bt203.2.1 (bt203.2.2 != bt209.2.2) bt198.1 bt203.1) else (laws_FnTables.j0 k bt198.2 bt203.2.1 true bt198.1 bt203.1))))))) = some r := h
  clear h
  replace H := Option.bind_eq_some_iff.mp H
  obtain ⟨t197, A20, H⟩ := H
  replace H : (if t197 = true then (some true) else ((spec_DrawTableAdd.f k l0).bind fun bt198 => ((impl_TableAdd.f k bt198.1 bt198.2).bind fun bt203 => ((spec_TableAdd.f k bt198.1 bt198.2).bind fun bt209 => (if bt203.2.1 = bt209.2.1 then (laws_FnTables.j0 k bt198.2 bt203.2.1 (bt203.2.2 != bt209.2.2) bt198.1 bt203.1) else (laws_FnTables.j0 k bt198.2 bt203.2.1 true bt198.1 bt203.1)))))) = some r := H
  have A2 := Aside0.mk A20
  clear A20
  by_cases c3 : t197 = true
  · subst c3
    have H1 : (some true) = some r := by rw [if_pos rfl] at H; exact H
    clear H
    have H := H1
    clear H1
    obtain rfl := Option.some.inj H
    go_enter Try.func8, Try.ntmps8
    go_wp2_with (first | ((with_reducible refine gate_callee (f := 27) rfl ?_); refine goesL_ (some 16) rfl rfl Try.func27 (by kernel_rfl) rfl #[.slice A0 l0.length c0] rfl (by (try simp only [List.map_toArray, List.map_cons, List.map_nil]); first | done | rfl | (simp only [List.length_drop, List.length_take]; rfl)) ?_; (with_reducible refine (laws_big.calls _ _ l0 true _ ?side1 ?side2 A2.out).mono ?_); (case side1 => repeat (first | exact HR0.out | (with_reducible refine Kd.C_alloc ?_ _) | (with_reducible refine Kd.C_drewN ?_ _) | (with_reducible refine Kd.C_drew ?_))); (case side2 => exact HC0.out); rintro e w' ⟨rfl, ⟨nd, rfl⟩⟩; refine ⟨_, rfl, ?_⟩))
    go_ret
    exact ⟨by first | rfl | (simp [errW_none, errW_some] <;> rfl) | (simp [*, errW_none, errW_some] <;> rfl), by repeat (first | (with_reducible first | exact HB.out | apply below_alloc | apply pw_below_drewN | apply below_drew1) | exact HB.out)⟩
  · replace c3 := Bool.eq_false_iff.mpr c3
    subst c3
    have H1 : ((spec_DrawTableAdd.f k l0).bind fun bt198 => ((impl_TableAdd.f k bt198.1 bt198.2).bind fun bt203 => ((spec_TableAdd.f k bt198.1 bt198.2).bind fun bt209 => (if bt203.2.1 = bt209.2.1 then (laws_FnTables.j0 k bt198.2 bt203.2.1 (bt203.2.2 != bt209.2.2) bt198.1 bt203.1) else (laws_FnTables.j0 k bt198.2 bt203.2.1 true bt198.1 bt203.1))))) = some r := by rw [if_neg (show ¬ (false = true) by decide)] at H; exact H
    clear H
    have H := H1
    clear H1
    replace H := Option.bind_eq_some_iff.mp H
    obtain ⟨⟨t198, t201⟩, A40, H⟩ := H
    replace H : ((impl_TableAdd.f k t198 t201).bind fun bt203 => ((spec_TableAdd.f k t198 t201).bind fun bt209 => (if bt203.2.1 = bt209.2.1 then (laws_FnTables.j0 k t201 bt203.2.1 (bt203.2.2 != bt209.2.2) t198 bt203.1) else (laws_FnTables.j0 k t201 bt203.2.1 true t198 bt203.1)))) = some r := H
    have A4 := Aside0.mk A40
    clear A40
    replace H := Option.bind_eq_some_iff.mp H
    obtain ⟨⟨t203, t206, t207⟩, A50, H⟩ := H
    replace H : ((spec_TableAdd.f k t198 t201).bind fun bt209 => (if t206 = bt209.2.1 then (laws_FnTables.j0 k t201 t206 (t207 != bt209.2.2) t198 t203) else (laws_FnTables.j0 k t201 t206 true t198 t203))) = some r := H
    have A5 := Aside0.mk A50
    clear A50
    replace H := Option.bind_eq_some_iff.mp H
    obtain ⟨⟨t209, t212, t213⟩, A60, H⟩ := H
    replace H : (if t206 = t212 then (laws_FnTables.j0 k t201 t206 (t207 != t213) t198 t203) else (laws_FnTables.j0 k t201 t206 true t198 t203)) = some r := H
    have A6 := Aside0.mk A60
    clear A60
    have HC7 := Aside0.mk H
    clear H
    go_enter Try.func8, Try.ntmps8
    go_upto_region 6 with (first | ((with_reducible refine gate_callee (f := 27) rfl ?_); refine goesL_ (some 16) rfl rfl Try.func27 (by kernel_rfl) rfl #[.slice A0 l0.length c0] rfl (by (try simp only [List.map_toArray, List.map_cons, List.map_nil]); first | done | rfl | (simp only [List.length_drop, List.length_take]; rfl)) ?_; (with_reducible refine (laws_big.calls _ _ l0 false _ ?side1 ?side2 A2.out).mono ?_); (case side1 => repeat (first | exact HR0.out | (with_reducible refine Kd.C_alloc ?_ _) | (with_reducible refine Kd.C_drewN ?_ _) | (with_reducible refine Kd.C_drew ?_))); (case side2 => exact HC0.out); rintro e w' ⟨rfl, ⟨nd, rfl⟩⟩; refine ⟨_, rfl, ?_⟩) | ((with_reducible refine gate_callee (f := 28) rfl ?_); refine goesL_ (some 19) rfl rfl Try.func28 (by kernel_rfl) rfl #[.slice A0 l0.length c0] rfl (by (try simp only [List.map_toArray, List.map_cons, List.map_nil]); first | done | rfl | (simp only [List.length_drop, List.length_take]; rfl)) ?_; (with_reducible refine (spec_DrawTableAdd.calls k _ _ l0 t198 t201 _ ?side1 ?side2 A4.out).mono ?_); (case side1 => repeat (first | exact HR0.out | (with_reducible refine Kd.C_alloc ?_ _) | (with_reducible refine Kd.C_drewN ?_ _) | (with_reducible refine Kd.C_drew ?_))); (case side2 => exact HC0.out); rintro e w8 ⟨v199, rfl, ho0, hb⟩; refine ⟨_, rfl, ?_⟩; have n0_ := Aside0.mk (Kd.R_lower ho0 (below_size (by repeat (first | (with_reducible first | exact HB.out | apply below_alloc | apply pw_below_drewN | apply below_drew1) | exact HB.out)))); have n1_ := Aside0.mk (below_step (by repeat (first | (with_reducible first | exact HB.out | apply below_alloc | apply pw_below_drewN | apply below_drew1) | exact HB.out)) hb); clear HB; have HO200 := n0_; have HB := n1_; clear n0_ n1_; (try clear hb); (try clear hb2); (try clear hk); (try clear hi); (try clear ho0)) | ((with_reducible refine gate_dst (N := 3) rfl ?_); (try (refine gate_guard (by rfl) ?_; dsimp only)); refine box_event ?hg (N := 3) ?hd (cs := #[.slice none 0 0]) (t := 36) ?hr ?_; (case hd => rfl); (case hg => rfl); (case hr => first | (go_simp; done) | (go_simp; rfl)); intro gb202 hg w9 hbox hb; have n0_ := Aside0.mk (Kd.R_below (by (with_reducible repeat (first | apply Kd.R_alloc | apply Kd.R_drewN | apply Kd.R_drew)); exact HO200.out) hb); have n1_ := Aside0.mk (below_step (by repeat (first | (with_reducible first | exact HB.out | apply below_alloc | apply pw_below_drewN | apply below_drew1) | exact HB.out)) hb); have n2_ := Aside0.mk (hbox); have n3_ := Aside0.mk ((by rw [hg]; exact (below_size (by repeat (first | (with_reducible first | exact HB.out | apply below_alloc | apply pw_below_drewN | apply below_drew1) | exact HB.out))) : w.heap.size ≤ gb202)); have n4_ := Aside0.mk ((by rw [hg]; exact (below_size (by repeat (first | (with_reducible first | exact HB.out | apply below_alloc | apply pw_below_drewN | apply below_drew1) | exact HB.out))) : w.heap.size ≤ gb202)); clear HO200; clear HB; have HO200 := n0_; have HB := n1_; have BK202 := n2_; have GW202 := n3_; have GE202 := n4_; clear n0_ n1_ n2_ n3_ n4_; clear hb hbox hg; obtain ⟨Ao10, co10, eo10⟩ := Kd.R_slice HO200.out; subst eo10; have hcz11_0 : w9.cell? ⟨gb202, 0, none⟩ = some (.slice none 0 0) := (blk_cell BK202.out 0).trans rfl; have hfz11_0 := blk_frozen BK202.out 0) | ((with_reducible refine gate_callee (f := 29) rfl ?_); refine goesL_ (some 25) rfl rfl Try.func29 (by kernel_rfl) rfl #[.agg #[.slice Ao10 t198.length co10], .int .i64 t201] rfl (by (try simp only [List.map_toArray, List.map_cons, List.map_nil]); first | done | rfl | (simp only [List.length_drop, List.length_take]; rfl)) ?_; (with_reducible refine (impl_TableAdd.calls k _ _ t198 t201 t203 t206 t207 _ ?side1 ?side2 A5.out).mono ?_); (case side1 => refine (Kd.R_reads' (e := 3) (base := w.heap.size) (ok := fun k_ => True) (n := t198.length) (c := co10) ?_).2.2; exact (by (with_reducible repeat (first | apply Kd.R_alloc | apply Kd.R_drewN | apply Kd.R_drew)); exact (Kd.R_mono (Kd.R_far (p := ⟨gb202, 0, none⟩) (Kd.R_types HO200.out BK202.out (by decide)) (fun _ hk => hk.2) (.slice Ao10 t198.length co10)) (fun _ h_ => h_.1)))); (case side2 => exact (Kd.R_reads' HO200.out).2.1); rintro e w12 ⟨v204, rfl, ho0, hb⟩; refine ⟨_, rfl, ?_⟩; have n0_ := Aside0.mk (Kd.R_elder' (by (with_reducible repeat (first | apply Kd.R_alloc | apply Kd.R_drewN | apply Kd.R_drew)); exact (Kd.R_mono (Kd.R_far (p := ⟨gb202, 0, none⟩) (Kd.R_types HO200.out BK202.out (by decide)) (fun _ hk => hk.2) (.slice Ao10 t198.length co10)) (fun _ h_ => h_.1))) (Kd.R_base ho0) hb); have n1_ := Aside0.mk (Kd.R_lower (Kd.R_new' ho0 (Kd.R_lt (by (with_reducible repeat (first | apply Kd.R_alloc | apply Kd.R_drewN | apply Kd.R_drew)); exact (Kd.R_mono (Kd.R_far (p := ⟨gb202, 0, none⟩) (Kd.R_types HO200.out BK202.out (by decide)) (fun _ hk => hk.2) (.slice Ao10 t198.length co10)) (fun _ h_ => h_.1))))) (below_size (by repeat (first | (with_reducible first | exact HB.out | apply below_alloc | apply pw_below_drewN | apply below_drew1 | refine below_set ?_ GE202.out) | exact HB.out)))); have n2_ := Aside0.mk (blk_below (g := gb202) (o := .cells #[.slice Ao10 t198.length co10] 36 (0, 0)) (by (with_reducible repeat (first | refine blk_drewN ?_ _ | refine blk_drew ?_ | refine blk_alloc ?_ _)); refine blk_put (cs := #[.slice none 0 0]) ?_ 0 _ rfl; (with_reducible repeat (first | refine blk_drewN ?_ _ | refine blk_drew ?_ | refine blk_alloc ?_ _)); exact BK202.out) hb); have n3_ := Aside0.mk (below_step (by repeat (first | (with_reducible first | exact HB.out | apply below_alloc | apply pw_below_drewN | apply below_drew1 | refine below_set ?_ GE202.out) | exact HB.out)) hb); clear HO200; clear BK202; clear HB; have HO200 := n0_; have HO205 := n1_; have BK202 := n2_; have HB := n3_; clear n0_ n1_ n2_ n3_; (try clear hb); (try clear hb2); (try clear hk); (try clear hi); (try clear ho0)) | ((with_reducible refine gate_dst (N := 5) rfl ?_); (try (refine gate_guard (by rfl) ?_; dsimp only)); refine box_event ?hg (N := 5) ?hd (cs := #[.slice none 0 0]) (t := 36) ?hr ?_; (case hd => rfl); (case hg => rfl); (case hr => first | (go_simp; done) | (go_simp; rfl)); intro gb208 hg w13 hbox hb; have n0_ := Aside0.mk (Kd.R_below (by (with_reducible repeat (first | apply Kd.R_alloc | apply Kd.R_drewN | apply Kd.R_drew)); exact HO200.out) hb); have n1_ := Aside0.mk (Kd.R_below (by (with_reducible repeat (first | apply Kd.R_alloc | apply Kd.R_drewN | apply Kd.R_drew)); exact HO205.out) hb); have n2_ := Aside0.mk (blk_below (g := gb202) (o := .cells #[.slice Ao10 t198.length co10] 36 (0, 0)) (by (with_reducible repeat (first | refine blk_drewN ?_ _ | refine blk_drew ?_ | refine blk_alloc ?_ _)); exact BK202.out) hb); have n3_ := Aside0.mk (below_step (by repeat (first | (with_reducible first | exact HB.out | apply below_alloc | apply pw_below_drewN | apply below_drew1 | refine below_set ?_ GE202.out) | exact HB.out)) hb); have n4_ := Aside0.mk (hbox); have n5_ := Aside0.mk ((by rw [hg]; exact (below_size (by repeat (first | (with_reducible first | exact HB.out | apply below_alloc | apply pw_below_drewN | apply below_drew1 | refine below_set ?_ GE202.out) | exact HB.out))) : w.heap.size ≤ gb208)); have n6_ := Aside0.mk ((by rw [hg]; exact (below_size (by repeat (first | (with_reducible first | exact HB.out | apply below_alloc | apply pw_below_drewN | apply below_drew1 | refine below_set ?_ GE202.out) | exact HB.out))) : w.heap.size ≤ gb208)); have n7_ := Aside0.mk ((by rw [hg]; exact Nat.ne_of_lt (blk_lt (g := gb202) (o := .cells #[.slice Ao10 t198.length co10] 36 (0, 0)) (by (with_reducible repeat (first | refine blk_drewN ?_ _ | refine blk_drew ?_ | refine blk_alloc ?_ _)); exact BK202.out)) : gb202 ≠ gb208)); have n8_ := Aside0.mk ((by rw [hg]; exact Nat.ne_of_gt (blk_lt (g := gb202) (o := .cells #[.slice Ao10 t198.length co10] 36 (0, 0)) (by (with_reducible repeat (first | refine blk_drewN ?_ _ | refine blk_drew ?_ | refine blk_alloc ?_ _)); exact BK202.out)) : gb208 ≠ gb202)); clear HO200; clear HO205; clear BK202; clear HB; have HO200 := n0_; have HO205 := n1_; have BK202 := n2_; have HB := n3_; have BK208 := n4_; have GW208 := n5_; have GE208 := n6_; have NB202_208 := n7_; have NB208_202 := n8_; clear n0_ n1_ n2_ n3_ n4_ n5_ n6_ n7_ n8_; clear hb hbox hg; obtain ⟨Ao14, co14, eo14⟩ := Kd.R_slice HO205.out; subst eo14; have hnb15 := NB208_202.out; have hnc15 := NB202_208.out; have hcz16_0 : w13.cell? ⟨gb208, 0, none⟩ = some (.slice none 0 0) := (blk_cell BK208.out 0).trans rfl; have hfz16_0 := blk_frozen BK208.out 0; have hcz17_0 : w13.cell? ⟨gb202, 0, none⟩ = some (.slice Ao10 t198.length co10) := (blk_cell BK202.out 0).trans rfl; have hfz17_0 := blk_frozen BK202.out 0) | ((with_reducible refine gate_callee (f := 30) rfl ?_); refine goesL_ (some 32) rfl rfl Try.func30 (by kernel_rfl) rfl #[.agg #[.slice Ao10 t198.length co10], .int .i64 t201] rfl (by (try simp only [List.map_toArray, List.map_cons, List.map_nil]); first | done | rfl | (simp only [List.length_drop, List.length_take]; rfl)) ?_; (with_reducible refine (spec_TableAdd.calls k _ _ t198 t201 t209 t212 t213 _ ?side1 ?side2 A6.out).mono ?_); (case side1 => refine (Kd.R_reads' (e := 3) (base := w.heap.size) (ok := fun k_ => (True ∧ some k_ ≠ (.slice Ao14 t203.length co14 : Value).ownBlock)) (n := t198.length) (c := co10) ?_).2.2; exact (by (with_reducible repeat (first | apply Kd.R_alloc | apply Kd.R_drewN | apply Kd.R_drew)); exact (Kd.R_mono (Kd.R_far (p := ⟨gb208, 0, none⟩) (Kd.R_types HO200.out BK208.out (by decide)) (fun _ hk => hk.2) (.slice Ao14 t203.length co14)) (fun _ h_ => h_.1)))); (case side2 => exact (Kd.R_reads' HO200.out).2.1); rintro e w18 ⟨v210, rfl, ho0, hb⟩; refine ⟨_, rfl, ?_⟩; have n0_ := Aside0.mk (Kd.R_elder' (by (with_reducible repeat (first | apply Kd.R_alloc | apply Kd.R_drewN | apply Kd.R_drew)); exact (Kd.R_mono (Kd.R_far (p := ⟨gb208, 0, none⟩) (Kd.R_types HO200.out BK208.out (by decide)) (fun _ hk => hk.2) (.slice Ao14 t203.length co14)) (fun _ h_ => h_.1))) (Kd.R_base ho0) hb); have n1_ := Aside0.mk (Kd.R_elder' (by (with_reducible repeat (first | apply Kd.R_alloc | apply Kd.R_drewN | apply Kd.R_drew)); exact (Kd.R_mono (Kd.R_far (p := ⟨gb208, 0, none⟩) (Kd.R_types HO205.out BK208.out (by decide)) (fun _ hk => hk.2) (.slice Ao14 t203.length co14)) (fun _ h_ => h_.1))) (Kd.R_base ho0) hb); have n2_ := Aside0.mk (Kd.R_lower (Kd.R_new' (Kd.R_new' ho0 (Kd.R_lt (by (with_reducible repeat (first | apply Kd.R_alloc | apply Kd.R_drewN | apply Kd.R_drew)); exact (Kd.R_mono (Kd.R_far (p := ⟨gb208, 0, none⟩) (Kd.R_types HO200.out BK208.out (by decide)) (fun _ hk => hk.2) (.slice Ao14 t203.length co14)) (fun _ h_ => h_.1))))) (Kd.R_lt (by (with_reducible repeat (first | apply Kd.R_alloc | apply Kd.R_drewN | apply Kd.R_drew)); exact (Kd.R_mono (Kd.R_far (p := ⟨gb208, 0, none⟩) (Kd.R_types HO205.out BK208.out (by decide)) (fun _ hk => hk.2) (.slice Ao14 t203.length co14)) (fun _ h_ => h_.1))))) (below_size (by repeat (first | (with_reducible first | exact HB.out | apply below_alloc | apply pw_below_drewN | apply below_drew1 | refine below_set ?_ GE202.out | refine below_set ?_ GE208.out) | exact HB.out)))); have n3_ := Aside0.mk (blk_below (g := gb202) (o := .cells #[.slice Ao10 t198.length co10] 36 (0, 0)) (by (with_reducible repeat (first | refine blk_drewN ?_ _ | refine blk_drew ?_ | refine blk_alloc ?_ _)); refine blk_far ?_ NB202_208.out _; (with_reducible repeat (first | refine blk_drewN ?_ _ | refine blk_drew ?_ | refine blk_alloc ?_ _)); exact BK202.out) hb); have n4_ := Aside0.mk (blk_below (g := gb208) (o := .cells #[.slice Ao14 t203.length co14] 36 (0, 0)) (by (with_reducible repeat (first | refine blk_drewN ?_ _ | refine blk_drew ?_ | refine blk_alloc ?_ _)); refine blk_put (cs := #[.slice none 0 0]) ?_ 0 _ rfl; (with_reducible repeat (first | refine blk_drewN ?_ _ | refine blk_drew ?_ | refine blk_alloc ?_ _)); exact BK208.out) hb); have n5_ := Aside0.mk (below_step (by repeat (first | (with_reducible first | exact HB.out | apply below_alloc | apply pw_below_drewN | apply below_drew1 | refine below_set ?_ GE202.out | refine below_set ?_ GE208.out) | exact HB.out)) hb); clear HO200; clear HO205; clear BK202; clear BK208; clear HB; have HO200 := n0_; have HO205 := n1_; have HO211 := n2_; have BK202 := n3_; have BK208 := n4_; have HB := n5_; clear n0_ n1_ n2_ n3_ n4_ n5_; (try clear hb); (try clear hb2); (try clear hk); (try clear hi); (try clear ho0)) | ((with_reducible refine gate_dst (N := 8) rfl ?_); (try (refine gate_guard (by rfl) ?_; dsimp only)); refine box_event ?hg (N := 8) ?hd (cs := #[.slice none 0 0]) (t := 36) ?hr ?_; (case hd => rfl); (case hg => rfl); (case hr => first | (go_simp; done) | (go_simp; rfl)); intro gb214 hg w19 hbox hb; have n0_ := Aside0.mk (Kd.R_below (by (with_reducible repeat (first | apply Kd.R_alloc | apply Kd.R_drewN | apply Kd.R_drew)); exact HO200.out) hb); have n1_ := Aside0.mk (Kd.R_below (by (with_reducible repeat (first | apply Kd.R_alloc | apply Kd.R_drewN | apply Kd.R_drew)); exact HO205.out) hb); have n2_ := Aside0.mk (Kd.R_below (by (with_reducible repeat (first | apply Kd.R_alloc | apply Kd.R_drewN | apply Kd.R_drew)); exact HO211.out) hb); have n3_ := Aside0.mk (blk_below (g := gb202) (o := .cells #[.slice Ao10 t198.length co10] 36 (0, 0)) (by (with_reducible repeat (first | refine blk_drewN ?_ _ | refine blk_drew ?_ | refine blk_alloc ?_ _)); exact BK202.out) hb); have n4_ := Aside0.mk (blk_below (g := gb208) (o := .cells #[.slice Ao14 t203.length co14] 36 (0, 0)) (by (with_reducible repeat (first | refine blk_drewN ?_ _ | refine blk_drew ?_ | refine blk_alloc ?_ _)); exact BK208.out) hb); have n5_ := Aside0.mk (below_step (by repeat (first | (with_reducible first | exact HB.out | apply below_alloc | apply pw_below_drewN | apply below_drew1 | refine below_set ?_ GE202.out | refine below_set ?_ GE208.out) | exact HB.out)) hb); have n6_ := Aside0.mk (hbox); have n7_ := Aside0.mk ((by rw [hg]; exact (below_size (by repeat (first | (with_reducible first | exact HB.out | apply below_alloc | apply pw_below_drewN | apply below_drew1 | refine below_set ?_ GE202.out | refine below_set ?_ GE208.out) | exact HB.out))) : w.heap.size ≤ gb214)); have n8_ := Aside0.mk ((by rw [hg]; exact (below_size (by repeat (first | (with_reducible first | exact HB.out | apply below_alloc | apply pw_below_drewN | apply below_drew1 | refine below_set ?_ GE202.out | refine below_set ?_ GE208.out) | exact HB.out))) : w.heap.size ≤ gb214)); have n9_ := Aside0.mk ((by rw [hg]; exact Nat.ne_of_lt (blk_lt (g := gb202) (o := .cells #[.slice Ao10 t198.length co10] 36 (0, 0)) (by (with_reducible repeat (first | refine blk_drewN ?_ _ | refine blk_drew ?_ | refine blk_alloc ?_ _)); exact BK202.out)) : gb202 ≠ gb214)); have n10_ := Aside0.mk ((by rw [hg]; exact Nat.ne_of_gt (blk_lt (g := gb202) (o := .cells #[.slice Ao10 t198.length co10] 36 (0, 0)) (by (with_reducible repeat (first | refine blk_drewN ?_ _ | refine blk_drew ?_ | refine blk_alloc ?_ _)); exact BK202.out)) : gb214 ≠ gb202)); have n11_ := Aside0.mk ((by rw [hg]; exact Nat.ne_of_lt (blk_lt (g := gb208) (o := .cells #[.slice Ao14 t203.length co14] 36 (0, 0)) (by (with_reducible repeat (first | refine blk_drewN ?_ _ | refine blk_drew ?_ | refine blk_alloc ?_ _)); exact BK208.out)) : gb208 ≠ gb214)); have n12_ := Aside0.mk ((by rw [hg]; exact Nat.ne_of_gt (blk_lt (g := gb208) (o := .cells #[.slice Ao14 t203.length co14] 36 (0, 0)) (by (with_reducible repeat (first | refine blk_drewN ?_ _ | refine blk_drew ?_ | refine blk_alloc ?_ _)); exact BK208.out)) : gb214 ≠ gb208)); clear HO200; clear HO205; clear HO211; clear BK202; clear BK208; clear HB; have HO200 := n0_; have HO205 := n1_; have HO211 := n2_; have BK202 := n3_; have BK208 := n4_; have HB := n5_; have BK214 := n6_; have GW214 := n7_; have GE214 := n8_; have NB202_214 := n9_; have NB214_202 := n10_; have NB208_214 := n11_; have NB214_208 := n12_; clear n0_ n1_ n2_ n3_ n4_ n5_ n6_ n7_ n8_ n9_ n10_ n11_ n12_; clear hb hbox hg; obtain ⟨Ao20, co20, eo20⟩ := Kd.R_slice HO211.out; subst eo20; have hnb21 := NB214_202.out; have hnc21 := NB202_214.out; have hnb22 := NB214_208.out; have hnc22 := NB208_214.out; have hcz23_0 : w19.cell? ⟨gb214, 0, none⟩ = some (.slice none 0 0) := (blk_cell BK214.out 0).trans rfl; have hfz23_0 := blk_frozen BK214.out 0))
    (try simp only [Act.put, List.setIfInBounds_toArray, List.set_cons_zero, List.set_cons_succ])
    go_cut [43] (fun v43 wc => ∃ (kq : Nat) (x43_6 : Bool), v43 = .bool x43_6 ∧ Aside0 (laws_FnTables.j0 kq t201 t206 x43_6 t198 t203 = some r) ∧ Aside0 (kq ≤ k) ∧ Aside0 (Kd.R (Kd.int .i64) 3 wc w.heap.size (fun k_ => some k_ ≠ ((.slice Ao14 t203.length co14) : Value).ownBlock ∧ some k_ ≠ ((.slice Ao20 t209.length co20) : Value).ownBlock) (.slice Ao10 t198.length co10) t198) ∧ Aside0 (Kd.R (Kd.int .i64) 3 wc w.heap.size (fun k_ => some k_ ≠ ((.slice Ao10 t198.length co10) : Value).ownBlock ∧ some k_ ≠ ((.slice Ao20 t209.length co20) : Value).ownBlock) (.slice Ao14 t203.length co14) t203) ∧ Aside0 (Kd.R (Kd.int .i64) 3 wc w.heap.size (fun k_ => some k_ ≠ ((.slice Ao10 t198.length co10) : Value).ownBlock ∧ some k_ ≠ ((.slice Ao14 t203.length co14) : Value).ownBlock) (.slice Ao20 t209.length co20) t209) ∧ Aside0 (wc.heap[gb202]? = some (.cells #[(.slice Ao10 t198.length co10)] 36 (0, 0))) ∧ Aside0 (wc.heap[gb208]? = some (.cells #[(.slice Ao14 t203.length co14)] 36 (0, 0))) ∧ Aside0 (wc.heap[gb214]? = some (.cells #[(.slice Ao20 t209.length co20)] 36 (0, 0))) ∧ Aside0 (Below w.heap.size w wc))
    case first =>
      have H := HC7.out
      clear HC7
      by_cases c24 : t206 = t212
      · rw [if_pos c24] at H
        have c24b0 : (t206 == t212) = true := beq_iff_eq.mpr c24
        have c24b1 : (t206 != t212) = false := bne_eq_false_iff_eq.mpr c24
        clear c24
        (first | rw [c24b0] | (simp only [i64_w, i32_w]; rw [c24b0]) | skip)
        have H' := Aside0.mk H
        clear H
        go_wp2
        go_meet
        case rel => exact ⟨_, ((t207 != t213)), (by first | rfl | (simp; done) | (simp [*]; done)), H', ⟨by first | omega | exact Nat.le_refl _⟩, ⟨by (with_reducible repeat (first | apply Kd.R_alloc | apply Kd.R_drewN | apply Kd.R_drew)); exact Kd.R_mono (Kd.R_far (p := ⟨gb214, 0, none⟩) (Kd.R_types HO200.out BK214.out (by decide)) (fun _ hk => hk.2) (.slice Ao20 t209.length co20)) (fun _ hk => ⟨hk.1.1.2, hk.1.2⟩)⟩, ⟨by (with_reducible repeat (first | apply Kd.R_alloc | apply Kd.R_drewN | apply Kd.R_drew)); exact Kd.R_mono (Kd.R_far (p := ⟨gb214, 0, none⟩) (Kd.R_types HO205.out BK214.out (by decide)) (fun _ hk => hk.2) (.slice Ao20 t209.length co20)) (fun _ hk => ⟨hk.1.1.2, hk.1.2⟩)⟩, ⟨by (with_reducible repeat (first | apply Kd.R_alloc | apply Kd.R_drewN | apply Kd.R_drew)); exact Kd.R_mono (Kd.R_far (p := ⟨gb214, 0, none⟩) (Kd.R_types HO211.out BK214.out (by decide)) (fun _ hk => hk.2) (.slice Ao20 t209.length co20)) (fun _ hk => ⟨hk.1.1.2, hk.1.2⟩)⟩, ⟨by (with_reducible repeat (first | refine blk_drewN ?_ _ | refine blk_drew ?_ | refine blk_alloc ?_ _)); refine blk_far ?_ NB202_214.out _; (with_reducible repeat (first | refine blk_drewN ?_ _ | refine blk_drew ?_ | refine blk_alloc ?_ _)); exact BK202.out⟩, ⟨by (with_reducible repeat (first | refine blk_drewN ?_ _ | refine blk_drew ?_ | refine blk_alloc ?_ _)); refine blk_far ?_ NB208_214.out _; (with_reducible repeat (first | refine blk_drewN ?_ _ | refine blk_drew ?_ | refine blk_alloc ?_ _)); exact BK208.out⟩, ⟨by (with_reducible repeat (first | refine blk_drewN ?_ _ | refine blk_drew ?_ | refine blk_alloc ?_ _)); refine blk_put (cs := #[.slice none 0 0]) ?_ 0 _ rfl; (with_reducible repeat (first | refine blk_drewN ?_ _ | refine blk_drew ?_ | refine blk_alloc ?_ _)); exact BK214.out⟩, ⟨by repeat (first | (with_reducible first | exact HB.out | apply below_alloc | apply pw_below_drewN | apply below_drew1 | refine below_set ?_ GE202.out | refine below_set ?_ GE208.out | refine below_set ?_ GE214.out) | exact HB.out)⟩⟩
      · rw [if_neg c24] at H
        have c24b0 : (t206 == t212) = false := beq_eq_false_iff_ne.mpr c24
        have c24b1 : (t206 != t212) = true := bne_iff_ne.mpr c24
        (first | rw [c24b0] | (simp only [i64_w, i32_w]; rw [c24b0]) | skip)
        have H' := Aside0.mk H
        clear H
        go_wp2
        go_meet
        case rel => exact ⟨_, (true), (by first | rfl | (simp; done) | (simp [*]; done)), H', ⟨by first | omega | exact Nat.le_refl _⟩, ⟨by (with_reducible repeat (first | apply Kd.R_alloc | apply Kd.R_drewN | apply Kd.R_drew)); exact Kd.R_mono (Kd.R_far (p := ⟨gb214, 0, none⟩) (Kd.R_types HO200.out BK214.out (by decide)) (fun _ hk => hk.2) (.slice Ao20 t209.length co20)) (fun _ hk => ⟨hk.1.1.2, hk.1.2⟩)⟩, ⟨by (with_reducible repeat (first | apply Kd.R_alloc | apply Kd.R_drewN | apply Kd.R_drew)); exact Kd.R_mono (Kd.R_far (p := ⟨gb214, 0, none⟩) (Kd.R_types HO205.out BK214.out (by decide)) (fun _ hk => hk.2) (.slice Ao20 t209.length co20)) (fun _ hk => ⟨hk.1.1.2, hk.1.2⟩)⟩, ⟨by (with_reducible repeat (first | apply Kd.R_alloc | apply Kd.R_drewN | apply Kd.R_drew)); exact Kd.R_mono (Kd.R_far (p := ⟨gb214, 0, none⟩) (Kd.R_types HO211.out BK214.out (by decide)) (fun _ hk => hk.2) (.slice Ao20 t209.length co20)) (fun _ hk => ⟨hk.1.1.2, hk.1.2⟩)⟩, ⟨by (with_reducible repeat (first | refine blk_drewN ?_ _ | refine blk_drew ?_ | refine blk_alloc ?_ _)); refine blk_far ?_ NB202_214.out _; (with_reducible repeat (first | refine blk_drewN ?_ _ | refine blk_drew ?_ | refine blk_alloc ?_ _)); exact BK202.out⟩, ⟨by (with_reducible repeat (first | refine blk_drewN ?_ _ | refine blk_drew ?_ | refine blk_alloc ?_ _)); refine blk_far ?_ NB208_214.out _; (with_reducible repeat (first | refine blk_drewN ?_ _ | refine blk_drew ?_ | refine blk_alloc ?_ _)); exact BK208.out⟩, ⟨by (with_reducible repeat (first | refine blk_drewN ?_ _ | refine blk_drew ?_ | refine blk_alloc ?_ _)); refine blk_put (cs := #[.slice none 0 0]) ?_ 0 _ rfl; (with_reducible repeat (first | refine blk_drewN ?_ _ | refine blk_drew ?_ | refine blk_alloc ?_ _)); exact BK214.out⟩, ⟨by repeat (first | (with_reducible first | exact HB.out | apply below_alloc | apply pw_below_drewN | apply below_drew1 | refine below_set ?_ GE202.out | refine below_set ?_ GE208.out | refine below_set ?_ GE214.out) | exact HB.out)⟩⟩
    case rest =>
      clear HC7
      try clear c1
      try clear c2
      try clear p2
      try clear c3
      try clear c8
      try clear c15
      try clear c21
      try clear c22
      try clear c24
      try clear c24b0
      try clear c24b1
      try clear hcz11_0
      try clear hcz16_0
      try clear hcz17_0
      try clear hcz23_0
      try clear hfz11_0
      try clear hfz16_0
      try clear hfz17_0
      try clear hfz23_0
      obtain ⟨kq, x43_6, rfl, HA, HJ6, HO_203000, HO_209000, HO_215000, BK202, BK208, BK214, HB⟩ := hcut
      cases kq with
      | zero => exact absurd HA.out (by simp [laws_FnTables.j0])
      | succ kj6 =>
        have H := HA.out
        clear HA
        simp only [laws_FnTables.j0] at H
        by_cases c25 : x43_6 = true
        · subst c25
          have H1 : (some false) = some r := by rw [if_pos rfl] at H; exact H
          clear H
          have H := H1
          clear H1
          obtain rfl := Option.some.inj H
          go_wp2
          go_ret
          exact ⟨by first | rfl | (simp [errW_none, errW_some] <;> rfl) | (simp [*, errW_none, errW_some] <;> rfl), by repeat (first | (with_reducible first | exact HB.out | apply below_alloc | apply pw_below_drewN | apply below_drew1 | refine below_set ?_ GE202.out | refine below_set ?_ GE208.out | refine below_set ?_ GE214.out) | exact HB.out)⟩
        · replace c25 := Bool.eq_false_iff.mpr c25
          subst c25
          have H1 : (if t206 < 0 then (if (t203.length : Int) = 0 then ((impl_TableFind.f kj6 t203 3).bind fun t215 => (some (t215 == (-1)))) else (some false)) else ((impl_TableAdd.f kj6 t203 t201).bind fun bt216 => (if bt216.2.1 = t206 then (if bt216.2.2 = true then (laws_FnTables.j1 kj6 true t198 t203) else (if (bt216.1.length : Int) = (t203.length : Int) then ((impl_TableFind.f kj6 bt216.1 t201).bind fun t222 => (if t222 = t206 then ((impl_TableOk.f bt216.1).bind fun t223 => (laws_FnTables.j1 kj6 (!t223) t198 t203)) else (laws_FnTables.j1 kj6 true t198 t203))) else (laws_FnTables.j1 kj6 true t198 t203))) else (laws_FnTables.j1 kj6 true t198 t203)))) = some r := by rw [if_neg (show ¬ (false = true) by decide)] at H; exact H
          clear H
          have H := H1
          clear H1
          by_cases c26 : t206 < 0
          · rw [if_pos c26] at H
            have c26b0 : decide (t206 < 0) = true := decide_eq_true c26
            clear c26
            by_cases c27 : (t203.length : Int) = 0
            · rw [if_pos c27] at H
              have c27b0 : ((t203.length : Int) == 0) = true := beq_iff_eq.mpr c27
              have c27b1 : ((t203.length : Int) != 0) = false := bne_eq_false_iff_eq.mpr c27
              clear c27
              replace H := Option.bind_eq_some_iff.mp H
              obtain ⟨t215, A280, H⟩ := H
              replace H : (some (t215 == (-1))) = some r := H
              have A28 := Aside0.mk A280
              clear A280
              obtain rfl := Option.some.inj H
              have hnb29 := NB208_202.out
              have hnc29 := NB202_208.out
              have hnb30 := NB208_214.out
              have hnc30 := NB214_208.out
              have hcz31_0 : wc.cell? ⟨gb208, 0, none⟩ = some (.slice Ao14 t203.length co14) := (blk_cell BK208.out 0).trans rfl
              have hfz31_0 := blk_frozen BK208.out 0
              go_wp2_with (first | (go_at_call 26; (with_reducible refine (impl_TableFind.calls kj6 _ _ t203 3 t215 _ ?side1 ?side2 A28.out).mono ?_); (case side1 => repeat (first | exact (Kd.R_reads' HO_209000.out).2.2 | (with_reducible refine Kd.C_alloc ?_ _) | (with_reducible refine Kd.C_drewN ?_ _) | (with_reducible refine Kd.C_drew ?_))); (case side2 => exact (Kd.R_reads' HO_209000.out).2.1); rintro e w32 ⟨rfl, hb⟩; have n0_ := Aside0.mk (Kd.R_below (by (with_reducible repeat (first | apply Kd.R_alloc | apply Kd.R_drewN | apply Kd.R_drew)); exact HO_203000.out) hb); have n1_ := Aside0.mk (Kd.R_below (by (with_reducible repeat (first | apply Kd.R_alloc | apply Kd.R_drewN | apply Kd.R_drew)); exact HO_209000.out) hb); have n2_ := Aside0.mk (Kd.R_below (by (with_reducible repeat (first | apply Kd.R_alloc | apply Kd.R_drewN | apply Kd.R_drew)); exact HO_215000.out) hb); have n3_ := Aside0.mk (blk_below (g := gb202) (o := .cells #[.slice Ao10 t198.length co10] 36 (0, 0)) (by (with_reducible repeat (first | refine blk_drewN ?_ _ | refine blk_drew ?_ | refine blk_alloc ?_ _)); exact BK202.out) hb); have n4_ := Aside0.mk (blk_below (g := gb208) (o := .cells #[.slice Ao14 t203.length co14] 36 (0, 0)) (by (with_reducible repeat (first | refine blk_drewN ?_ _ | refine blk_drew ?_ | refine blk_alloc ?_ _)); exact BK208.out) hb); have n5_ := Aside0.mk (blk_below (g := gb214) (o := .cells #[.slice Ao20 t209.length co20] 36 (0, 0)) (by (with_reducible repeat (first | refine blk_drewN ?_ _ | refine blk_drew ?_ | refine blk_alloc ?_ _)); exact BK214.out) hb); have n6_ := Aside0.mk (below_step (by repeat (first | (with_reducible first | exact HB.out | apply below_alloc | apply pw_below_drewN | apply below_drew1 | refine below_set ?_ GE202.out | refine below_set ?_ GE208.out | refine below_set ?_ GE214.out) | exact HB.out)) hb); clear HO_203000; clear HO_209000; clear HO_215000; clear BK202; clear BK208; clear BK214; clear HB; have HO_203000 := n0_; have HO_209000 := n1_; have HO_215000 := n2_; have BK202 := n3_; have BK208 := n4_; have BK214 := n5_; have HB := n6_; clear n0_ n1_ n2_ n3_ n4_ n5_ n6_; (try clear hb); (try clear hb2); (try clear hk); (try clear hi)))
              go_ret
              exact ⟨by first | rfl | (simp [errW_none, errW_some] <;> rfl) | (simp [*, errW_none, errW_some] <;> rfl), by repeat (first | (with_reducible first | exact HB.out | apply below_alloc | apply pw_below_drewN | apply below_drew1 | refine below_set ?_ GE202.out | refine below_set ?_ GE208.out | refine below_set ?_ GE214.out) | exact HB.out)⟩
            · rw [if_neg c27] at H
              have c27b0 : ((t203.length : Int) == 0) = false := beq_eq_false_iff_ne.mpr c27
              have c27b1 : ((t203.length : Int) != 0) = true := bne_iff_ne.mpr c27
              have c27b2 : ¬ (t203 = []) := fun h_ => c27 (by rw [h_]; rfl)
              obtain rfl := Option.some.inj H
              have hnb33 := NB208_202.out
              have hnc33 := NB202_208.out
              have hnb34 := NB208_214.out
              have hnc34 := NB214_208.out
              have hcz35_0 : wc.cell? ⟨gb208, 0, none⟩ = some (.slice Ao14 t203.length co14) := (blk_cell BK208.out 0).trans rfl
              have hfz35_0 := blk_frozen BK208.out 0
              go_wp2
              go_ret
              exact ⟨by first | rfl | (simp [errW_none, errW_some] <;> rfl) | (simp [*, errW_none, errW_some] <;> rfl), by repeat (first | (with_reducible first | exact HB.out | apply below_alloc | apply pw_below_drewN | apply below_drew1 | refine below_set ?_ GE202.out | refine below_set ?_ GE208.out | refine below_set ?_ GE214.out) | exact HB.out)⟩
          · rw [if_neg c26] at H
            have c26b0 : decide (t206 < 0) = false := decide_eq_false c26
            clear c26
            replace H := Option.bind_eq_some_iff.mp H
            obtain ⟨⟨t216, t219, t220⟩, A360, H⟩ := H
            replace H : (if t219 = t206 then (if t220 = true then (laws_FnTables.j1 kj6 true t198 t203) else (if (t216.length : Int) = (t203.length : Int) then ((impl_TableFind.f kj6 t216 t201).bind fun t222 => (if t222 = t206 then ((impl_TableOk.f t216).bind fun t223 => (laws_FnTables.j1 kj6 (!t223) t198 t203)) else (laws_FnTables.j1 kj6 true t198 t203))) else (laws_FnTables.j1 kj6 true t198 t203))) else (laws_FnTables.j1 kj6 true t198 t203)) = some r := H
            have A36 := Aside0.mk A360
            clear A360
            have HC37 := Aside0.mk H
            clear H
            have hnb38 := NB208_202.out
            have hnc38 := NB202_208.out
            have hnb39 := NB208_214.out
            have hnc39 := NB214_208.out
            have hcz40_0 : wc.cell? ⟨gb208, 0, none⟩ = some (.slice Ao14 t203.length co14) := (blk_cell BK208.out 0).trans rfl
            have hfz40_0 := blk_frozen BK208.out 0
            go_upto_region 11 with (first | ((with_reducible refine gate_callee (f := 29) rfl ?_); refine goesL_ (some 58) rfl rfl Try.func29 (by kernel_rfl) rfl #[.agg #[.slice Ao14 t203.length co14], .int .i64 t201] rfl (by (try simp only [List.map_toArray, List.map_cons, List.map_nil]); first | done | rfl | (simp only [List.length_drop, List.length_take]; rfl)) ?_; (with_reducible refine (impl_TableAdd.calls kj6 _ _ t203 t201 t216 t219 t220 _ ?side1 ?side2 A36.out).mono ?_); (case side1 => repeat (first | exact (Kd.R_reads' HO_209000.out).2.2 | (with_reducible refine Kd.C_alloc ?_ _) | (with_reducible refine Kd.C_drewN ?_ _) | (with_reducible refine Kd.C_drew ?_))); (case side2 => exact (Kd.R_reads' HO_209000.out).2.1); rintro e w41 ⟨v217, rfl, ho0, hb⟩; refine ⟨_, rfl, ?_⟩; have n0_ := Aside0.mk (Kd.R_elder' (by (with_reducible repeat (first | apply Kd.R_alloc | apply Kd.R_drewN | apply Kd.R_drew)); exact HO_203000.out) (Kd.R_base ho0) hb); have n1_ := Aside0.mk (Kd.R_elder' (by (with_reducible repeat (first | apply Kd.R_alloc | apply Kd.R_drewN | apply Kd.R_drew)); exact HO_209000.out) (Kd.R_base ho0) hb); have n2_ := Aside0.mk (Kd.R_elder' (by (with_reducible repeat (first | apply Kd.R_alloc | apply Kd.R_drewN | apply Kd.R_drew)); exact HO_215000.out) (Kd.R_base ho0) hb); have n3_ := Aside0.mk (Kd.R_lower (Kd.R_new' (Kd.R_new' (Kd.R_new' ho0 (Kd.R_lt (by (with_reducible repeat (first | apply Kd.R_alloc | apply Kd.R_drewN | apply Kd.R_drew)); exact HO_203000.out))) (Kd.R_lt (by (with_reducible repeat (first | apply Kd.R_alloc | apply Kd.R_drewN | apply Kd.R_drew)); exact HO_209000.out))) (Kd.R_lt (by (with_reducible repeat (first | apply Kd.R_alloc | apply Kd.R_drewN | apply Kd.R_drew)); exact HO_215000.out))) (below_size (by repeat (first | (with_reducible first | exact HB.out | apply below_alloc | apply pw_below_drewN | apply below_drew1 | refine below_set ?_ GE202.out | refine below_set ?_ GE208.out | refine below_set ?_ GE214.out) | exact HB.out)))); have n4_ := Aside0.mk (blk_below (g := gb202) (o := .cells #[.slice Ao10 t198.length co10] 36 (0, 0)) (by (with_reducible repeat (first | refine blk_drewN ?_ _ | refine blk_drew ?_ | refine blk_alloc ?_ _)); exact BK202.out) hb); have n5_ := Aside0.mk (blk_below (g := gb208) (o := .cells #[.slice Ao14 t203.length co14] 36 (0, 0)) (by (with_reducible repeat (first | refine blk_drewN ?_ _ | refine blk_drew ?_ | refine blk_alloc ?_ _)); exact BK208.out) hb); have n6_ := Aside0.mk (blk_below (g := gb214) (o := .cells #[.slice Ao20 t209.length co20] 36 (0, 0)) (by (with_reducible repeat (first | refine blk_drewN ?_ _ | refine blk_drew ?_ | refine blk_alloc ?_ _)); exact BK214.out) hb); have n7_ := Aside0.mk (below_step (by repeat (first | (with_reducible first | exact HB.out | apply below_alloc | apply pw_below_drewN | apply below_drew1 | refine below_set ?_ GE202.out | refine below_set ?_ GE208.out | refine below_set ?_ GE214.out) | exact HB.out)) hb); clear HO_203000; clear HO_209000; clear HO_215000; clear BK202; clear BK208; clear BK214; clear HB; have HO_203000 := n0_; have HO_209000 := n1_; have HO_215000 := n2_; have HO218 := n3_; have BK202 := n4_; have BK208 := n5_; have BK214 := n6_; have HB := n7_; clear n0_ n1_ n2_ n3_ n4_ n5_ n6_ n7_; (try clear hb); (try clear hb2); (try clear hk); (try clear hi); (try clear ho0)) | ((with_reducible refine gate_dst (N := 11) rfl ?_); (try (refine gate_guard (by rfl) ?_; dsimp only)); refine box_event ?hg (N := 11) ?hd (cs := #[.slice none 0 0]) (t := 36) ?hr ?_; (case hd => rfl); (case hg => rfl); (case hr => first | (go_simp; done) | (go_simp; rfl)); intro gb221 hg w42 hbox hb; have n0_ := Aside0.mk (Kd.R_below (by (with_reducible repeat (first | apply Kd.R_alloc | apply Kd.R_drewN | apply Kd.R_drew)); exact HO_203000.out) hb); have n1_ := Aside0.mk (Kd.R_below (by (with_reducible repeat (first | apply Kd.R_alloc | apply Kd.R_drewN | apply Kd.R_drew)); exact HO_209000.out) hb); have n2_ := Aside0.mk (Kd.R_below (by (with_reducible repeat (first | apply Kd.R_alloc | apply Kd.R_drewN | apply Kd.R_drew)); exact HO_215000.out) hb); have n3_ := Aside0.mk (Kd.R_below (by (with_reducible repeat (first | apply Kd.R_alloc | apply Kd.R_drewN | apply Kd.R_drew)); exact HO218.out) hb); have n4_ := Aside0.mk (blk_below (g := gb202) (o := .cells #[.slice Ao10 t198.length co10] 36 (0, 0)) (by (with_reducible repeat (first | refine blk_drewN ?_ _ | refine blk_drew ?_ | refine blk_alloc ?_ _)); exact BK202.out) hb); have n5_ := Aside0.mk (blk_below (g := gb208) (o := .cells #[.slice Ao14 t203.length co14] 36 (0, 0)) (by (with_reducible repeat (first | refine blk_drewN ?_ _ | refine blk_drew ?_ | refine blk_alloc ?_ _)); exact BK208.out) hb); have n6_ := Aside0.mk (blk_below (g := gb214) (o := .cells #[.slice Ao20 t209.length co20] 36 (0, 0)) (by (with_reducible repeat (first | refine blk_drewN ?_ _ | refine blk_drew ?_ | refine blk_alloc ?_ _)); exact BK214.out) hb); have n7_ := Aside0.mk (below_step (by repeat (first | (with_reducible first | exact HB.out | apply below_alloc | apply pw_below_drewN | apply below_drew1 | refine below_set ?_ GE202.out | refine below_set ?_ GE208.out | refine below_set ?_ GE214.out) | exact HB.out)) hb); have n8_ := Aside0.mk (hbox); have n9_ := Aside0.mk ((by rw [hg]; exact (below_size (by repeat (first | (with_reducible first | exact HB.out | apply below_alloc | apply pw_below_drewN | apply below_drew1 | refine below_set ?_ GE202.out | refine below_set ?_ GE208.out | refine below_set ?_ GE214.out) | exact HB.out))) : w.heap.size ≤ gb221)); have n10_ := Aside0.mk ((by rw [hg]; exact (below_size (by repeat (first | (with_reducible first | exact HB.out | apply below_alloc | apply pw_below_drewN | apply below_drew1 | refine below_set ?_ GE202.out | refine below_set ?_ GE208.out | refine below_set ?_ GE214.out) | exact HB.out))) : w.heap.size ≤ gb221)); have n11_ := Aside0.mk ((by rw [hg]; exact Nat.ne_of_lt (blk_lt (g := gb202) (o := .cells #[.slice Ao10 t198.length co10] 36 (0, 0)) (by (with_reducible repeat (first | refine blk_drewN ?_ _ | refine blk_drew ?_ | refine blk_alloc ?_ _)); exact BK202.out)) : gb202 ≠ gb221)); have n12_ := Aside0.mk ((by rw [hg]; exact Nat.ne_of_gt (blk_lt (g := gb202) (o := .cells #[.slice Ao10 t198.length co10] 36 (0, 0)) (by (with_reducible repeat (first | refine blk_drewN ?_ _ | refine blk_drew ?_ | refine blk_alloc ?_ _)); exact BK202.out)) : gb221 ≠ gb202)); have n13_ := Aside0.mk ((by rw [hg]; exact Nat.ne_of_lt (blk_lt (g := gb208) (o := .cells #[.slice Ao14 t203.length co14] 36 (0, 0)) (by (with_reducible repeat (first | refine blk_drewN ?_ _ | refine blk_drew ?_ | refine blk_alloc ?_ _)); exact BK208.out)) : gb208 ≠ gb221)); have n14_ := Aside0.mk ((by rw [hg]; exact Nat.ne_of_gt (blk_lt (g := gb208) (o := .cells #[.slice Ao14 t203.length co14] 36 (0, 0)) (by (with_reducible repeat (first | refine blk_drewN ?_ _ | refine blk_drew ?_ | refine blk_alloc ?_ _)); exact BK208.out)) : gb221 ≠ gb208)); have n15_ := Aside0.mk ((by rw [hg]; exact Nat.ne_of_lt (blk_lt (g := gb214) (o := .cells #[.slice Ao20 t209.length co20] 36 (0, 0)) (by (with_reducible repeat (first | refine blk_drewN ?_ _ | refine blk_drew ?_ | refine blk_alloc ?_ _)); exact BK214.out)) : gb214 ≠ gb221)); have n16_ := Aside0.mk ((by rw [hg]; exact Nat.ne_of_gt (blk_lt (g := gb214) (o := .cells #[.slice Ao20 t209.length co20] 36 (0, 0)) (by (with_reducible repeat (first | refine blk_drewN ?_ _ | refine blk_drew ?_ | refine blk_alloc ?_ _)); exact BK214.out)) : gb221 ≠ gb214)); clear HO_203000; clear HO_209000; clear HO_215000; clear HO218; clear BK202; clear BK208; clear BK214; clear HB; have HO_203000 := n0_; have HO_209000 := n1_; have HO_215000 := n2_; have HO218 := n3_; have BK202 := n4_; have BK208 := n5_; have BK214 := n6_; have HB := n7_; have BK221 := n8_; have GW221 := n9_; have GE221 := n10_; have NB202_221 := n11_; have NB221_202 := n12_; have NB208_221 := n13_; have NB221_208 := n14_; have NB214_221 := n15_; have NB221_214 := n16_; clear n0_ n1_ n2_ n3_ n4_ n5_ n6_ n7_ n8_ n9_ n10_ n11_ n12_ n13_ n14_ n15_ n16_; clear hb hbox hg; obtain ⟨Ao43, co43, eo43⟩ := Kd.R_slice HO218.out; subst eo43; have hnb44 := NB221_202.out; have hnc44 := NB202_221.out; have hnb45 := NB221_208.out; have hnc45 := NB208_221.out; have hnb46 := NB221_214.out; have hnc46 := NB214_221.out; have hcz47_0 : w42.cell? ⟨gb221, 0, none⟩ = some (.slice none 0 0) := (blk_cell BK221.out 0).trans rfl; have hfz47_0 := blk_frozen BK221.out 0))
            (try simp only [Act.put, List.setIfInBounds_toArray, List.set_cons_zero, List.set_cons_succ])
            go_cut [88] (fun v88 wc => ∃ (kq : Nat) (x88_36 : Bool), v88 = .bool x88_36 ∧ Aside0 (laws_FnTables.j1 kq x88_36 t198 t203 = some r) ∧ Aside0 (kq ≤ kj6) ∧ Aside0 (Kd.R (Kd.int .i64) 3 wc w.heap.size (fun k_ => some k_ ≠ ((.slice Ao14 t203.length co14) : Value).ownBlock ∧ some k_ ≠ ((.slice Ao20 t209.length co20) : Value).ownBlock ∧ some k_ ≠ ((.slice Ao43 t216.length co43) : Value).ownBlock) (.slice Ao10 t198.length co10) t198) ∧ Aside0 (Kd.R (Kd.int .i64) 3 wc w.heap.size (fun k_ => some k_ ≠ ((.slice Ao10 t198.length co10) : Value).ownBlock ∧ some k_ ≠ ((.slice Ao20 t209.length co20) : Value).ownBlock ∧ some k_ ≠ ((.slice Ao43 t216.length co43) : Value).ownBlock) (.slice Ao14 t203.length co14) t203) ∧ Aside0 (Kd.R (Kd.int .i64) 3 wc w.heap.size (fun k_ => some k_ ≠ ((.slice Ao10 t198.length co10) : Value).ownBlock ∧ some k_ ≠ ((.slice Ao14 t203.length co14) : Value).ownBlock ∧ some k_ ≠ ((.slice Ao43 t216.length co43) : Value).ownBlock) (.slice Ao20 t209.length co20) t209) ∧ Aside0 (Kd.R (Kd.int .i64) 3 wc w.heap.size (fun k_ => some k_ ≠ ((.slice Ao10 t198.length co10) : Value).ownBlock ∧ some k_ ≠ ((.slice Ao14 t203.length co14) : Value).ownBlock ∧ some k_ ≠ ((.slice Ao20 t209.length co20) : Value).ownBlock) (.slice Ao43 t216.length co43) t216) ∧ Aside0 (wc.heap[gb202]? = some (.cells #[(.slice Ao10 t198.length co10)] 36 (0, 0))) ∧ Aside0 (wc.heap[gb208]? = some (.cells #[(.slice Ao14 t203.length co14)] 36 (0, 0))) ∧ Aside0 (wc.heap[gb214]? = some (.cells #[(.slice Ao20 t209.length co20)] 36 (0, 0))) ∧ Aside0 (wc.heap[gb221]? = some (.cells #[(.slice Ao43 t216.length co43)] 36 (0, 0))) ∧ Aside0 (Below w.heap.size w wc))
            case first =>
              have H := HC37.out
              clear HC37
              by_cases c48 : t219 = t206
              · rw [if_pos c48] at H
                have c48b0 : (t219 == t206) = true := beq_iff_eq.mpr c48
                have c48b1 : (t219 != t206) = false := bne_eq_false_iff_eq.mpr c48
                clear c48
                (first | rw [c48b0] | (simp only [i64_w, i32_w]; rw [c48b0]) | skip)
                by_cases c49 : t220 = true
                · subst c49
                  have H1 : (laws_FnTables.j1 kj6 true t198 t203) = some r := by rw [if_pos rfl] at H; exact H
                  clear H
                  have H := H1
                  clear H1
                  have H' := Aside0.mk H
                  clear H
                  go_wp2
                  go_meet
                  case rel => exact ⟨_, (true), (by first | rfl | (simp; done) | (simp [*]; done)), H', ⟨by have := HJ6.out; first | omega | exact Nat.le_refl _⟩, ⟨by (with_reducible repeat (first | apply Kd.R_alloc | apply Kd.R_drewN | apply Kd.R_drew)); exact Kd.R_mono (Kd.R_far (p := ⟨gb221, 0, none⟩) (Kd.R_types HO_203000.out BK221.out (by decide)) (fun _ hk => hk.2) (.slice Ao43 t216.length co43)) (fun _ hk => ⟨hk.1.1.1, ⟨hk.1.1.2, hk.1.2⟩⟩)⟩, ⟨by (with_reducible repeat (first | apply Kd.R_alloc | apply Kd.R_drewN | apply Kd.R_drew)); exact Kd.R_mono (Kd.R_far (p := ⟨gb221, 0, none⟩) (Kd.R_types HO_209000.out BK221.out (by decide)) (fun _ hk => hk.2) (.slice Ao43 t216.length co43)) (fun _ hk => ⟨hk.1.1.1, ⟨hk.1.1.2, hk.1.2⟩⟩)⟩, ⟨by (with_reducible repeat (first | apply Kd.R_alloc | apply Kd.R_drewN | apply Kd.R_drew)); exact Kd.R_mono (Kd.R_far (p := ⟨gb221, 0, none⟩) (Kd.R_types HO_215000.out BK221.out (by decide)) (fun _ hk => hk.2) (.slice Ao43 t216.length co43)) (fun _ hk => ⟨hk.1.1.1, ⟨hk.1.1.2, hk.1.2⟩⟩)⟩, ⟨by (with_reducible repeat (first | apply Kd.R_alloc | apply Kd.R_drewN | apply Kd.R_drew)); exact Kd.R_mono (Kd.R_far (p := ⟨gb221, 0, none⟩) (Kd.R_types HO218.out BK221.out (by decide)) (fun _ hk => hk.2) (.slice Ao43 t216.length co43)) (fun _ hk => ⟨hk.1.1.1.2, ⟨hk.1.1.2, hk.1.2⟩⟩)⟩, ⟨by (with_reducible repeat (first | refine blk_drewN ?_ _ | refine blk_drew ?_ | refine blk_alloc ?_ _)); refine blk_far ?_ NB202_221.out _; (with_reducible repeat (first | refine blk_drewN ?_ _ | refine blk_drew ?_ | refine blk_alloc ?_ _)); exact BK202.out⟩, ⟨by (with_reducible repeat (first | refine blk_drewN ?_ _ | refine blk_drew ?_ | refine blk_alloc ?_ _)); refine blk_far ?_ NB208_221.out _; (with_reducible repeat (first | refine blk_drewN ?_ _ | refine blk_drew ?_ | refine blk_alloc ?_ _)); exact BK208.out⟩, ⟨by (with_reducible repeat (first | refine blk_drewN ?_ _ | refine blk_drew ?_ | refine blk_alloc ?_ _)); refine blk_far ?_ NB214_221.out _; (with_reducible repeat (first | refine blk_drewN ?_ _ | refine blk_drew ?_ | refine blk_alloc ?_ _)); exact BK214.out⟩, ⟨by (with_reducible repeat (first | refine blk_drewN ?_ _ | refine blk_drew ?_ | refine blk_alloc ?_ _)); refine blk_put (cs := #[.slice none 0 0]) ?_ 0 _ rfl; (with_reducible repeat (first | refine blk_drewN ?_ _ | refine blk_drew ?_ | refine blk_alloc ?_ _)); exact BK221.out⟩, ⟨by repeat (first | (with_reducible first | exact HB.out | apply below_alloc | apply pw_below_drewN | apply below_drew1 | refine below_set ?_ GE202.out | refine below_set ?_ GE208.out | refine below_set ?_ GE214.out | refine below_set ?_ GE221.out) | exact HB.out)⟩⟩
                · replace c49 := Bool.eq_false_iff.mpr c49
                  subst c49
                  have H1 : (if (t216.length : Int) = (t203.length : Int) then ((impl_TableFind.f kj6 t216 t201).bind fun t222 => (if t222 = t206 then ((impl_TableOk.f t216).bind fun t223 => (laws_FnTables.j1 kj6 (!t223) t198 t203)) else (laws_FnTables.j1 kj6 true t198 t203))) else (laws_FnTables.j1 kj6 true t198 t203)) = some r := by rw [if_neg (show ¬ (false = true) by decide)] at H; exact H
                  clear H
                  have H := H1
                  clear H1
                  by_cases c50 : (t216.length : Int) = (t203.length : Int)
                  · rw [if_pos c50] at H
                    have c50b0 : ((t216.length : Int) == (t203.length : Int)) = true := beq_iff_eq.mpr c50
                    have c50b1 : ((t216.length : Int) != (t203.length : Int)) = false := bne_eq_false_iff_eq.mpr c50
                    have c50b2 : (t216.length == t203.length) = true := by first | simpa using c50 | (simp at c50 ⊢; omega)
                    clear c50
                    replace H := Option.bind_eq_some_iff.mp H
                    obtain ⟨t222, A510, H⟩ := H
                    replace H : (if t222 = t206 then ((impl_TableOk.f t216).bind fun t223 => (laws_FnTables.j1 kj6 (!t223) t198 t203)) else (laws_FnTables.j1 kj6 true t198 t203)) = some r := H
                    have A51 := Aside0.mk A510
                    clear A510
                    by_cases c52 : t222 = t206
                    · rw [if_pos c52] at H
                      have c52b0 : (t222 == t206) = true := beq_iff_eq.mpr c52
                      have c52b1 : (t222 != t206) = false := bne_eq_false_iff_eq.mpr c52
                      clear c52
                      replace H := Option.bind_eq_some_iff.mp H
                      obtain ⟨t223, A530, H⟩ := H
                      replace H : (laws_FnTables.j1 kj6 (!t223) t198 t203) = some r := H
                      have A53 := Aside0.mk A530
                      clear A530
                      have H' := Aside0.mk H
                      clear H
                      have hnb54 := NB221_202.out
                      have hnc54 := NB202_221.out
                      have hnb55 := NB221_208.out
                      have hnc55 := NB208_221.out
                      have hnb56 := NB221_214.out
                      have hnc56 := NB214_221.out
                      have hcz57_0 : w42.cell? ⟨gb221, 0, none⟩ = some (.slice none 0 0) := (blk_cell BK221.out 0).trans rfl
                      have hfz57_0 := blk_frozen BK221.out 0
                      have hnb58 := NB208_202.out
                      have hnc58 := NB202_208.out
                      have hnb59 := NB208_214.out
                      have hnc59 := NB214_208.out
                      have hcz60_0 : w42.cell? ⟨gb208, 0, none⟩ = some (.slice Ao14 t203.length co14) := (blk_cell BK208.out 0).trans rfl
                      have hfz60_0 := blk_frozen BK208.out 0
                      go_wp2_with (first | (go_at_call 26; (with_reducible refine (impl_TableFind.calls kj6 _ _ t216 t201 t222 _ ?side1 ?side2 A51.out).mono ?_); (case side1 => refine (Kd.R_reads' (e := 3) (base := w.heap.size) (ok := fun k_ => (((True ∧ some k_ ≠ (.slice Ao10 t198.length co10 : Value).ownBlock) ∧ some k_ ≠ (.slice Ao14 t203.length co14 : Value).ownBlock) ∧ some k_ ≠ (.slice Ao20 t209.length co20 : Value).ownBlock)) (n := t216.length) (c := co43) ?_).2.2; exact (by (with_reducible repeat (first | apply Kd.R_alloc | apply Kd.R_drewN | apply Kd.R_drew)); exact (Kd.R_mono (Kd.R_far (p := ⟨gb221, 0, none⟩) (Kd.R_types HO218.out BK221.out (by decide)) (fun _ hk => hk.2) (.slice Ao43 t216.length co43)) (fun _ h_ => h_.1)))); (case side2 => exact (Kd.R_reads' HO218.out).2.1); rintro e w61 ⟨rfl, hb⟩; have n0_ := Aside0.mk (Kd.R_below (by (with_reducible repeat (first | apply Kd.R_alloc | apply Kd.R_drewN | apply Kd.R_drew)); exact (Kd.R_mono (Kd.R_far (p := ⟨gb221, 0, none⟩) (Kd.R_types HO_203000.out BK221.out (by decide)) (fun _ hk => hk.2) (.slice Ao43 t216.length co43)) (fun _ h_ => h_.1))) hb); have n1_ := Aside0.mk (Kd.R_below (by (with_reducible repeat (first | apply Kd.R_alloc | apply Kd.R_drewN | apply Kd.R_drew)); exact (Kd.R_mono (Kd.R_far (p := ⟨gb221, 0, none⟩) (Kd.R_types HO_209000.out BK221.out (by decide)) (fun _ hk => hk.2) (.slice Ao43 t216.length co43)) (fun _ h_ => h_.1))) hb); have n2_ := Aside0.mk (Kd.R_below (by (with_reducible repeat (first | apply Kd.R_alloc | apply Kd.R_drewN | apply Kd.R_drew)); exact (Kd.R_mono (Kd.R_far (p := ⟨gb221, 0, none⟩) (Kd.R_types HO_215000.out BK221.out (by decide)) (fun _ hk => hk.2) (.slice Ao43 t216.length co43)) (fun _ h_ => h_.1))) hb); have n3_ := Aside0.mk (Kd.R_below (by (with_reducible repeat (first | apply Kd.R_alloc | apply Kd.R_drewN | apply Kd.R_drew)); exact (Kd.R_mono (Kd.R_far (p := ⟨gb221, 0, none⟩) (Kd.R_types HO218.out BK221.out (by decide)) (fun _ hk => hk.2) (.slice Ao43 t216.length co43)) (fun _ h_ => h_.1))) hb); have n4_ := Aside0.mk (blk_below (g := gb202) (o := .cells #[.slice Ao10 t198.length co10] 36 (0, 0)) (by (with_reducible repeat (first | refine blk_drewN ?_ _ | refine blk_drew ?_ | refine blk_alloc ?_ _)); refine blk_far ?_ NB202_221.out _; (with_reducible repeat (first | refine blk_drewN ?_ _ | refine blk_drew ?_ | refine blk_alloc ?_ _)); exact BK202.out) hb); have n5_ := Aside0.mk (blk_below (g := gb208) (o := .cells #[.slice Ao14 t203.length co14] 36 (0, 0)) (by (with_reducible repeat (first | refine blk_drewN ?_ _ | refine blk_drew ?_ | refine blk_alloc ?_ _)); refine blk_far ?_ NB208_221.out _; (with_reducible repeat (first | refine blk_drewN ?_ _ | refine blk_drew ?_ | refine blk_alloc ?_ _)); exact BK208.out) hb); have n6_ := Aside0.mk (blk_below (g := gb214) (o := .cells #[.slice Ao20 t209.length co20] 36 (0, 0)) (by (with_reducible repeat (first | refine blk_drewN ?_ _ | refine blk_drew ?_ | refine blk_alloc ?_ _)); refine blk_far ?_ NB214_221.out _; (with_reducible repeat (first | refine blk_drewN ?_ _ | refine blk_drew ?_ | refine blk_alloc ?_ _)); exact BK214.out) hb); have n7_ := Aside0.mk (blk_below (g := gb221) (o := .cells #[.slice Ao43 t216.length co43] 36 (0, 0)) (by (with_reducible repeat (first | refine blk_drewN ?_ _ | refine blk_drew ?_ | refine blk_alloc ?_ _)); refine blk_put (cs := #[.slice none 0 0]) ?_ 0 _ rfl; (with_reducible repeat (first | refine blk_drewN ?_ _ | refine blk_drew ?_ | refine blk_alloc ?_ _)); exact BK221.out) hb); have n8_ := Aside0.mk (below_step (by repeat (first | (with_reducible first | exact HB.out | apply below_alloc | apply pw_below_drewN | apply below_drew1 | refine below_set ?_ GE202.out | refine below_set ?_ GE208.out | refine below_set ?_ GE214.out | refine below_set ?_ GE221.out) | exact HB.out)) hb); clear HO_203000; clear HO_209000; clear HO_215000; clear HO218; clear BK202; clear BK208; clear BK214; clear BK221; clear HB; have HO_203000 := n0_; have HO_209000 := n1_; have HO_215000 := n2_; have HO218 := n3_; have BK202 := n4_; have BK208 := n5_; have BK214 := n6_; have BK221 := n7_; have HB := n8_; clear n0_ n1_ n2_ n3_ n4_ n5_ n6_ n7_ n8_; (try clear hb); (try clear hb2); (try clear hk); (try clear hi); have hcz62_0 : w61.cell? ⟨gb221, 0, none⟩ = some (.slice Ao43 t216.length co43) := (blk_cell BK221.out 0).trans rfl; have hfz62_0 := blk_frozen BK221.out 0) | (go_at_call 23; (with_reducible refine (impl_TableOk.calls _ _ t216 t223 _ ?side1 ?side2 A53.out).mono ?_); (case side1 => repeat (first | exact (Kd.R_reads' HO218.out).2.2 | (with_reducible refine Kd.C_alloc ?_ _) | (with_reducible refine Kd.C_drewN ?_ _) | (with_reducible refine Kd.C_drew ?_))); (case side2 => exact (Kd.R_reads' HO218.out).2.1); rintro e w63 ⟨rfl, hb⟩; have n0_ := Aside0.mk (Kd.R_below (by (with_reducible repeat (first | apply Kd.R_alloc | apply Kd.R_drewN | apply Kd.R_drew)); exact HO_203000.out) hb); have n1_ := Aside0.mk (Kd.R_below (by (with_reducible repeat (first | apply Kd.R_alloc | apply Kd.R_drewN | apply Kd.R_drew)); exact HO_209000.out) hb); have n2_ := Aside0.mk (Kd.R_below (by (with_reducible repeat (first | apply Kd.R_alloc | apply Kd.R_drewN | apply Kd.R_drew)); exact HO_215000.out) hb); have n3_ := Aside0.mk (Kd.R_below (by (with_reducible repeat (first | apply Kd.R_alloc | apply Kd.R_drewN | apply Kd.R_drew)); exact HO218.out) hb); have n4_ := Aside0.mk (blk_below (g := gb202) (o := .cells #[.slice Ao10 t198.length co10] 36 (0, 0)) (by (with_reducible repeat (first | refine blk_drewN ?_ _ | refine blk_drew ?_ | refine blk_alloc ?_ _)); exact BK202.out) hb); have n5_ := Aside0.mk (blk_below (g := gb208) (o := .cells #[.slice Ao14 t203.length co14] 36 (0, 0)) (by (with_reducible repeat (first | refine blk_drewN ?_ _ | refine blk_drew ?_ | refine blk_alloc ?_ _)); exact BK208.out) hb); have n6_ := Aside0.mk (blk_below (g := gb214) (o := .cells #[.slice Ao20 t209.length co20] 36 (0, 0)) (by (with_reducible repeat (first | refine blk_drewN ?_ _ | refine blk_drew ?_ | refine blk_alloc ?_ _)); exact BK214.out) hb); have n7_ := Aside0.mk (blk_below (g := gb221) (o := .cells #[.slice Ao43 t216.length co43] 36 (0, 0)) (by (with_reducible repeat (first | refine blk_drewN ?_ _ | refine blk_drew ?_ | refine blk_alloc ?_ _)); exact BK221.out) hb); have n8_ := Aside0.mk (below_step (by repeat (first | (with_reducible first | exact HB.out | apply below_alloc | apply pw_below_drewN | apply below_drew1 | refine below_set ?_ GE202.out | refine below_set ?_ GE208.out | refine below_set ?_ GE214.out | refine below_set ?_ GE221.out) | exact HB.out)) hb); clear HO_203000; clear HO_209000; clear HO_215000; clear HO218; clear BK202; clear BK208; clear BK214; clear BK221; clear HB; have HO_203000 := n0_; have HO_209000 := n1_; have HO_215000 := n2_; have HO218 := n3_; have BK202 := n4_; have BK208 := n5_; have BK214 := n6_; have BK221 := n7_; have HB := n8_; clear n0_ n1_ n2_ n3_ n4_ n5_ n6_ n7_ n8_; (try clear hb); (try clear hb2); (try clear hk); (try clear hi)))
                      go_meet
                      case rel => exact ⟨_, (!t223), (by first | rfl | (simp; done) | (simp [*]; done)), H', ⟨by have := HJ6.out; first | omega | exact Nat.le_refl _⟩, ⟨by (with_reducible repeat (first | apply Kd.R_alloc | apply Kd.R_drewN | apply Kd.R_drew)); exact Kd.R_mono HO_203000.out (fun _ hk => ⟨hk.1.1, ⟨hk.1.2, hk.2⟩⟩)⟩, ⟨by (with_reducible repeat (first | apply Kd.R_alloc | apply Kd.R_drewN | apply Kd.R_drew)); exact Kd.R_mono HO_209000.out (fun _ hk => ⟨hk.1.1, ⟨hk.1.2, hk.2⟩⟩)⟩, ⟨by (with_reducible repeat (first | apply Kd.R_alloc | apply Kd.R_drewN | apply Kd.R_drew)); exact Kd.R_mono HO_215000.out (fun _ hk => ⟨hk.1.1, ⟨hk.1.2, hk.2⟩⟩)⟩, ⟨by (with_reducible repeat (first | apply Kd.R_alloc | apply Kd.R_drewN | apply Kd.R_drew)); exact Kd.R_mono HO218.out (fun _ hk => ⟨hk.1.1.2, ⟨hk.1.2, hk.2⟩⟩)⟩, ⟨by (with_reducible repeat (first | refine blk_drewN ?_ _ | refine blk_drew ?_ | refine blk_alloc ?_ _)); exact BK202.out⟩, ⟨by (with_reducible repeat (first | refine blk_drewN ?_ _ | refine blk_drew ?_ | refine blk_alloc ?_ _)); exact BK208.out⟩, ⟨by (with_reducible repeat (first | refine blk_drewN ?_ _ | refine blk_drew ?_ | refine blk_alloc ?_ _)); exact BK214.out⟩, ⟨by (with_reducible repeat (first | refine blk_drewN ?_ _ | refine blk_drew ?_ | refine blk_alloc ?_ _)); exact BK221.out⟩, ⟨by repeat (first | (with_reducible first | exact HB.out | apply below_alloc | apply pw_below_drewN | apply below_drew1 | refine below_set ?_ GE202.out | refine below_set ?_ GE208.out | refine below_set ?_ GE214.out | refine below_set ?_ GE221.out) | exact HB.out)⟩⟩
                    · rw [if_neg c52] at H
                      have c52b0 : (t222 == t206) = false := beq_eq_false_iff_ne.mpr c52
                      have c52b1 : (t222 != t206) = true := bne_iff_ne.mpr c52
                      have H' := Aside0.mk H
                      clear H
                      have hnb64 := NB221_202.out
                      have hnc64 := NB202_221.out
                      have hnb65 := NB221_208.out
                      have hnc65 := NB208_221.out
                      have hnb66 := NB221_214.out
                      have hnc66 := NB214_221.out
                      have hcz67_0 : w42.cell? ⟨gb221, 0, none⟩ = some (.slice none 0 0) := (blk_cell BK221.out 0).trans rfl
                      have hfz67_0 := blk_frozen BK221.out 0
                      have hnb68 := NB208_202.out
                      have hnc68 := NB202_208.out
                      have hnb69 := NB208_214.out
                      have hnc69 := NB214_208.out
                      have hcz70_0 : w42.cell? ⟨gb208, 0, none⟩ = some (.slice Ao14 t203.length co14) := (blk_cell BK208.out 0).trans rfl
                      have hfz70_0 := blk_frozen BK208.out 0
                      go_wp2_with (first | (go_at_call 26; (with_reducible refine (impl_TableFind.calls kj6 _ _ t216 t201 t222 _ ?side1 ?side2 A51.out).mono ?_); (case side1 => refine (Kd.R_reads' (e := 3) (base := w.heap.size) (ok := fun k_ => (((True ∧ some k_ ≠ (.slice Ao10 t198.length co10 : Value).ownBlock) ∧ some k_ ≠ (.slice Ao14 t203.length co14 : Value).ownBlock) ∧ some k_ ≠ (.slice Ao20 t209.length co20 : Value).ownBlock)) (n := t216.length) (c := co43) ?_).2.2; exact (by (with_reducible repeat (first | apply Kd.R_alloc | apply Kd.R_drewN | apply Kd.R_drew)); exact (Kd.R_mono (Kd.R_far (p := ⟨gb221, 0, none⟩) (Kd.R_types HO218.out BK221.out (by decide)) (fun _ hk => hk.2) (.slice Ao43 t216.length co43)) (fun _ h_ => h_.1)))); (case side2 => exact (Kd.R_reads' HO218.out).2.1); rintro e w71 ⟨rfl, hb⟩; have n0_ := Aside0.mk (Kd.R_below (by (with_reducible repeat (first | apply Kd.R_alloc | apply Kd.R_drewN | apply Kd.R_drew)); exact (Kd.R_mono (Kd.R_far (p := ⟨gb221, 0, none⟩) (Kd.R_types HO_203000.out BK221.out (by decide)) (fun _ hk => hk.2) (.slice Ao43 t216.length co43)) (fun _ h_ => h_.1))) hb); have n1_ := Aside0.mk (Kd.R_below (by (with_reducible repeat (first | apply Kd.R_alloc | apply Kd.R_drewN | apply Kd.R_drew)); exact (Kd.R_mono (Kd.R_far (p := ⟨gb221, 0, none⟩) (Kd.R_types HO_209000.out BK221.out (by decide)) (fun _ hk => hk.2) (.slice Ao43 t216.length co43)) (fun _ h_ => h_.1))) hb); have n2_ := Aside0.mk (Kd.R_below (by (with_reducible repeat (first | apply Kd.R_alloc | apply Kd.R_drewN | apply Kd.R_drew)); exact (Kd.R_mono (Kd.R_far (p := ⟨gb221, 0, none⟩) (Kd.R_types HO_215000.out BK221.out (by decide)) (fun _ hk => hk.2) (.slice Ao43 t216.length co43)) (fun _ h_ => h_.1))) hb); have n3_ := Aside0.mk (Kd.R_below (by (with_reducible repeat (first | apply Kd.R_alloc | apply Kd.R_drewN | apply Kd.R_drew)); exact (Kd.R_mono (Kd.R_far (p := ⟨gb221, 0, none⟩) (Kd.R_types HO218.out BK221.out (by decide)) (fun _ hk => hk.2) (.slice Ao43 t216.length co43)) (fun _ h_ => h_.1))) hb); have n4_ := Aside0.mk (blk_below (g := gb202) (o := .cells #[.slice Ao10 t198.length co10] 36 (0, 0)) (by (with_reducible repeat (first | refine blk_drewN ?_ _ | refine blk_drew ?_ | refine blk_alloc ?_ _)); refine blk_far ?_ NB202_221.out _; (with_reducible repeat (first | refine blk_drewN ?_ _ | refine blk_drew ?_ | refine blk_alloc ?_ _)); exact BK202.out) hb); have n5_ := Aside0.mk (blk_below (g := gb208) (o := .cells #[.slice Ao14 t203.length co14] 36 (0, 0)) (by (with_reducible repeat (first | refine blk_drewN ?_ _ | refine blk_drew ?_ | refine blk_alloc ?_ _)); refine blk_far ?_ NB208_221.out _; (with_reducible repeat (first | refine blk_drewN ?_ _ | refine blk_drew ?_ | refine blk_alloc ?_ _)); exact BK208.out) hb); have n6_ := Aside0.mk (blk_below (g := gb214) (o := .cells #[.slice Ao20 t209.length co20] 36 (0, 0)) (by (with_reducible repeat (first | refine blk_drewN ?_ _ | refine blk_drew ?_ | refine blk_alloc ?_ _)); refine blk_far ?_ NB214_221.out _; (with_reducible repeat (first | refine blk_drewN ?_ _ | refine blk_drew ?_ | refine blk_alloc ?_ _)); exact BK214.out) hb); have n7_ := Aside0.mk (blk_below (g := gb221) (o := .cells #[.slice Ao43 t216.length co43] 36 (0, 0)) (by (with_reducible repeat (first | refine blk_drewN ?_ _ | refine blk_drew ?_ | refine blk_alloc ?_ _)); refine blk_put (cs := #[.slice none 0 0]) ?_ 0 _ rfl; (with_reducible repeat (first | refine blk_drewN ?_ _ | refine blk_drew ?_ | refine blk_alloc ?_ _)); exact BK221.out) hb); have n8_ := Aside0.mk (below_step (by repeat (first | (with_reducible first | exact HB.out | apply below_alloc | apply pw_below_drewN | apply below_drew1 | refine below_set ?_ GE202.out | refine below_set ?_ GE208.out | refine below_set ?_ GE214.out | refine below_set ?_ GE221.out) | exact HB.out)) hb); clear HO_203000; clear HO_209000; clear HO_215000; clear HO218; clear BK202; clear BK208; clear BK214; clear BK221; clear HB; have HO_203000 := n0_; have HO_209000 := n1_; have HO_215000 := n2_; have HO218 := n3_; have BK202 := n4_; have BK208 := n5_; have BK214 := n6_; have BK221 := n7_; have HB := n8_; clear n0_ n1_ n2_ n3_ n4_ n5_ n6_ n7_ n8_; (try clear hb); (try clear hb2); (try clear hk); (try clear hi)))
                      go_meet
                      case rel => exact ⟨_, (true), (by first | rfl | (simp; done) | (simp [*]; done)), H', ⟨by have := HJ6.out; first | omega | exact Nat.le_refl _⟩, ⟨by (with_reducible repeat (first | apply Kd.R_alloc | apply Kd.R_drewN | apply Kd.R_drew)); exact Kd.R_mono HO_203000.out (fun _ hk => ⟨hk.1.1, ⟨hk.1.2, hk.2⟩⟩)⟩, ⟨by (with_reducible repeat (first | apply Kd.R_alloc | apply Kd.R_drewN | apply Kd.R_drew)); exact Kd.R_mono HO_209000.out (fun _ hk => ⟨hk.1.1, ⟨hk.1.2, hk.2⟩⟩)⟩, ⟨by (with_reducible repeat (first | apply Kd.R_alloc | apply Kd.R_drewN | apply Kd.R_drew)); exact Kd.R_mono HO_215000.out (fun _ hk => ⟨hk.1.1, ⟨hk.1.2, hk.2⟩⟩)⟩, ⟨by (with_reducible repeat (first | apply Kd.R_alloc | apply Kd.R_drewN | apply Kd.R_drew)); exact Kd.R_mono HO218.out (fun _ hk => ⟨hk.1.1.2, ⟨hk.1.2, hk.2⟩⟩)⟩, ⟨by (with_reducible repeat (first | refine blk_drewN ?_ _ | refine blk_drew ?_ | refine blk_alloc ?_ _)); exact BK202.out⟩, ⟨by (with_reducible repeat (first | refine blk_drewN ?_ _ | refine blk_drew ?_ | refine blk_alloc ?_ _)); exact BK208.out⟩, ⟨by (with_reducible repeat (first | refine blk_drewN ?_ _ | refine blk_drew ?_ | refine blk_alloc ?_ _)); exact BK214.out⟩, ⟨by (with_reducible repeat (first | refine blk_drewN ?_ _ | refine blk_drew ?_ | refine blk_alloc ?_ _)); exact BK221.out⟩, ⟨by repeat (first | (with_reducible first | exact HB.out | apply below_alloc | apply pw_below_drewN | apply below_drew1 | refine below_set ?_ GE202.out | refine below_set ?_ GE208.out | refine below_set ?_ GE214.out | refine below_set ?_ GE221.out) | exact HB.out)⟩⟩
                  · rw [if_neg c50] at H
                    have c50b0 : ((t216.length : Int) == (t203.length : Int)) = false := beq_eq_false_iff_ne.mpr c50
                    have c50b1 : ((t216.length : Int) != (t203.length : Int)) = true := bne_iff_ne.mpr c50
                    have c50b2 : (t216.length == t203.length) = false := by first | simpa using c50 | (simp at c50 ⊢; omega)
                    have H' := Aside0.mk H
                    clear H
                    have hnb72 := NB221_202.out
                    have hnc72 := NB202_221.out
                    have hnb73 := NB221_208.out
                    have hnc73 := NB208_221.out
                    have hnb74 := NB221_214.out
                    have hnc74 := NB214_221.out
                    have hcz75_0 : w42.cell? ⟨gb221, 0, none⟩ = some (.slice none 0 0) := (blk_cell BK221.out 0).trans rfl
                    have hfz75_0 := blk_frozen BK221.out 0
                    have hnb76 := NB208_202.out
                    have hnc76 := NB202_208.out
                    have hnb77 := NB208_214.out
                    have hnc77 := NB214_208.out
                    have hcz78_0 : w42.cell? ⟨gb208, 0, none⟩ = some (.slice Ao14 t203.length co14) := (blk_cell BK208.out 0).trans rfl
                    have hfz78_0 := blk_frozen BK208.out 0
                    go_wp2
                    go_meet
                    case rel => exact ⟨_, (true), (by first | rfl | (simp; done) | (simp [*]; done)), H', ⟨by have := HJ6.out; first | omega | exact Nat.le_refl _⟩, ⟨by (with_reducible repeat (first | apply Kd.R_alloc | apply Kd.R_drewN | apply Kd.R_drew)); exact Kd.R_mono (Kd.R_far (p := ⟨gb221, 0, none⟩) (Kd.R_types HO_203000.out BK221.out (by decide)) (fun _ hk => hk.2) (.slice Ao43 t216.length co43)) (fun _ hk => ⟨hk.1.1.1, ⟨hk.1.1.2, hk.1.2⟩⟩)⟩, ⟨by (with_reducible repeat (first | apply Kd.R_alloc | apply Kd.R_drewN | apply Kd.R_drew)); exact Kd.R_mono (Kd.R_far (p := ⟨gb221, 0, none⟩) (Kd.R_types HO_209000.out BK221.out (by decide)) (fun _ hk => hk.2) (.slice Ao43 t216.length co43)) (fun _ hk => ⟨hk.1.1.1, ⟨hk.1.1.2, hk.1.2⟩⟩)⟩, ⟨by (with_reducible repeat (first | apply Kd.R_alloc | apply Kd.R_drewN | apply Kd.R_drew)); exact Kd.R_mono (Kd.R_far (p := ⟨gb221, 0, none⟩) (Kd.R_types HO_215000.out BK221.out (by decide)) (fun _ hk => hk.2) (.slice Ao43 t216.length co43)) (fun _ hk => ⟨hk.1.1.1, ⟨hk.1.1.2, hk.1.2⟩⟩)⟩, ⟨by (with_reducible repeat (first | apply Kd.R_alloc | apply Kd.R_drewN | apply Kd.R_drew)); exact Kd.R_mono (Kd.R_far (p := ⟨gb221, 0, none⟩) (Kd.R_types HO218.out BK221.out (by decide)) (fun _ hk => hk.2) (.slice Ao43 t216.length co43)) (fun _ hk => ⟨hk.1.1.1.2, ⟨hk.1.1.2, hk.1.2⟩⟩)⟩, ⟨by (with_reducible repeat (first | refine blk_drewN ?_ _ | refine blk_drew ?_ | refine blk_alloc ?_ _)); refine blk_far ?_ NB202_221.out _; (with_reducible repeat (first | refine blk_drewN ?_ _ | refine blk_drew ?_ | refine blk_alloc ?_ _)); exact BK202.out⟩, ⟨by (with_reducible repeat (first | refine blk_drewN ?_ _ | refine blk_drew ?_ | refine blk_alloc ?_ _)); refine blk_far ?_ NB208_221.out _; (with_reducible repeat (first | refine blk_drewN ?_ _ | refine blk_drew ?_ | refine blk_alloc ?_ _)); exact BK208.out⟩, ⟨by (with_reducible repeat (first | refine blk_drewN ?_ _ | refine blk_drew ?_ | refine blk_alloc ?_ _)); refine blk_far ?_ NB214_221.out _; (with_reducible repeat (first | refine blk_drewN ?_ _ | refine blk_drew ?_ | refine blk_alloc ?_ _)); exact BK214.out⟩, ⟨by (with_reducible repeat (first | refine blk_drewN ?_ _ | refine blk_drew ?_ | refine blk_alloc ?_ _)); refine blk_put (cs := #[.slice none 0 0]) ?_ 0 _ rfl; (with_reducible repeat (first | refine blk_drewN ?_ _ | refine blk_drew ?_ | refine blk_alloc ?_ _)); exact BK221.out⟩, ⟨by repeat (first | (with_reducible first | exact HB.out | apply below_alloc | apply pw_below_drewN | apply below_drew1 | refine below_set ?_ GE202.out | refine below_set ?_ GE208.out | refine below_set ?_ GE214.out | refine below_set ?_ GE221.out) | exact HB.out)⟩⟩
              · rw [if_neg c48] at H
                have c48b0 : (t219 == t206) = false := beq_eq_false_iff_ne.mpr c48
                have c48b1 : (t219 != t206) = true := bne_iff_ne.mpr c48
                (first | rw [c48b0] | (simp only [i64_w, i32_w]; rw [c48b0]) | skip)
                have H' := Aside0.mk H
                clear H
                go_wp2
                go_meet
                case rel => exact ⟨_, (true), (by first | rfl | (simp; done) | (simp [*]; done)), H', ⟨by have := HJ6.out; first | omega | exact Nat.le_refl _⟩, ⟨by (with_reducible repeat (first | apply Kd.R_alloc | apply Kd.R_drewN | apply Kd.R_drew)); exact Kd.R_mono (Kd.R_far (p := ⟨gb221, 0, none⟩) (Kd.R_types HO_203000.out BK221.out (by decide)) (fun _ hk => hk.2) (.slice Ao43 t216.length co43)) (fun _ hk => ⟨hk.1.1.1, ⟨hk.1.1.2, hk.1.2⟩⟩)⟩, ⟨by (with_reducible repeat (first | apply Kd.R_alloc | apply Kd.R_drewN | apply Kd.R_drew)); exact Kd.R_mono (Kd.R_far (p := ⟨gb221, 0, none⟩) (Kd.R_types HO_209000.out BK221.out (by decide)) (fun _ hk => hk.2) (.slice Ao43 t216.length co43)) (fun _ hk => ⟨hk.1.1.1, ⟨hk.1.1.2, hk.1.2⟩⟩)⟩, ⟨by (with_reducible repeat (first | apply Kd.R_alloc | apply Kd.R_drewN | apply Kd.R_drew)); exact Kd.R_mono (Kd.R_far (p := ⟨gb221, 0, none⟩) (Kd.R_types HO_215000.out BK221.out (by decide)) (fun _ hk => hk.2) (.slice Ao43 t216.length co43)) (fun _ hk => ⟨hk.1.1.1, ⟨hk.1.1.2, hk.1.2⟩⟩)⟩, ⟨by (with_reducible repeat (first | apply Kd.R_alloc | apply Kd.R_drewN | apply Kd.R_drew)); exact Kd.R_mono (Kd.R_far (p := ⟨gb221, 0, none⟩) (Kd.R_types HO218.out BK221.out (by decide)) (fun _ hk => hk.2) (.slice Ao43 t216.length co43)) (fun _ hk => ⟨hk.1.1.1.2, ⟨hk.1.1.2, hk.1.2⟩⟩)⟩, ⟨by (with_reducible repeat (first | refine blk_drewN ?_ _ | refine blk_drew ?_ | refine blk_alloc ?_ _)); refine blk_far ?_ NB202_221.out _; (with_reducible repeat (first | refine blk_drewN ?_ _ | refine blk_drew ?_ | refine blk_alloc ?_ _)); exact BK202.out⟩, ⟨by (with_reducible repeat (first | refine blk_drewN ?_ _ | refine blk_drew ?_ | refine blk_alloc ?_ _)); refine blk_far ?_ NB208_221.out _; (with_reducible repeat (first | refine blk_drewN ?_ _ | refine blk_drew ?_ | refine blk_alloc ?_ _)); exact BK208.out⟩, ⟨by (with_reducible repeat (first | refine blk_drewN ?_ _ | refine blk_drew ?_ | refine blk_alloc ?_ _)); refine blk_far ?_ NB214_221.out _; (with_reducible repeat (first | refine blk_drewN ?_ _ | refine blk_drew ?_ | refine blk_alloc ?_ _)); exact BK214.out⟩, ⟨by (with_reducible repeat (first | refine blk_drewN ?_ _ | refine blk_drew ?_ | refine blk_alloc ?_ _)); refine blk_put (cs := #[.slice none 0 0]) ?_ 0 _ rfl; (with_reducible repeat (first | refine blk_drewN ?_ _ | refine blk_drew ?_ | refine blk_alloc ?_ _)); exact BK221.out⟩, ⟨by repeat (first | (with_reducible first | exact HB.out | apply below_alloc | apply pw_below_drewN | apply below_drew1 | refine below_set ?_ GE202.out | refine below_set ?_ GE208.out | refine below_set ?_ GE214.out | refine below_set ?_ GE221.out) | exact HB.out)⟩⟩
            case rest =>
              clear HC37
              try clear c1
              try clear c2
              try clear p2
              try clear c3
              try clear c4
              try clear c5
              try clear c6
              try clear c7
              try clear c8
              try clear c15
              try clear c21
              try clear c22
              try clear c24
              try clear c24b0
              try clear c24b1
              try clear c25
              try clear c26
              try clear c26b0
              try clear c27
              try clear c27b0
              try clear c27b1
              try clear c27b2
              try clear c28
              try clear c29
              try clear c30
              try clear c33
              try clear c34
              try clear c38
              try clear c39
              try clear c44
              try clear c45
              try clear c46
              try clear c48
              try clear c48b0
              try clear c48b1
              try clear c49
              try clear c50
              try clear c50b0
              try clear c50b1
              try clear c50b2
              try clear c52
              try clear c52b0
              try clear c52b1
              try clear c54
              try clear c55
              try clear c56
              try clear c58
              try clear c59
              try clear c64
              try clear c65
              try clear c66
              try clear c68
              try clear c69
              try clear c72
              try clear c73
              try clear c74
              try clear c76
              try clear c77
              try clear hcz11_0
              try clear hcz16_0
              try clear hcz17_0
              try clear hcz23_0
              try clear hcz31_0
              try clear hcz35_0
              try clear hcz40_0
              try clear hcz47_0
              try clear hcz57_0
              try clear hcz60_0
              try clear hcz62_0
              try clear hcz67_0
              try clear hcz70_0
              try clear hcz75_0
              try clear hcz78_0
              try clear hfz11_0
              try clear hfz16_0
              try clear hfz17_0
              try clear hfz23_0
              try clear hfz31_0
              try clear hfz35_0
              try clear hfz40_0
              try clear hfz47_0
              try clear hfz57_0
              try clear hfz60_0
              try clear hfz62_0
              try clear hfz67_0
              try clear hfz70_0
              try clear hfz75_0
              try clear hfz78_0
              try clear p2
              obtain ⟨kq, x88_36, rfl, HA, HJ36, HO_203000, HO_209000, HO_215000, HO_222000, BK202, BK208, BK214, BK221, HB⟩ := hcut
              cases kq with
              | zero => exact absurd HA.out (by simp [laws_FnTables.j1])
              | succ kj36 =>
                have H := HA.out
                clear HA
                simp only [laws_FnTables.j1] at H
                by_cases c79 : x88_36 = true
                · subst c79
                  have H1 : (some false) = some r := by rw [if_pos rfl] at H; exact H
                  clear H
                  have H := H1
                  clear H1
                  obtain rfl := Option.some.inj H
                  go_wp2
                  go_ret
                  exact ⟨by first | rfl | (simp [errW_none, errW_some] <;> rfl) | (simp [*, errW_none, errW_some] <;> rfl), by repeat (first | (with_reducible first | exact HB.out | apply below_alloc | apply pw_below_drewN | apply below_drew1 | refine below_set ?_ GE202.out | refine below_set ?_ GE208.out | refine below_set ?_ GE214.out | refine below_set ?_ GE221.out) | exact HB.out)⟩
                · replace c79 := Bool.eq_false_iff.mpr c79
                  subst c79
                  have H1 : (laws_FnTables.l0 kj36 0 t198 t203) = some r := by rw [if_neg (show ¬ (false = true) by decide)] at H; exact H
                  clear H
                  have H := H1
                  clear H1
                  have H' := Aside0.mk H
                  clear H
                  go_wp2
                  go_loopg [14] kj36 (fun kq v14 w' => ∃ (x14_3 : Int), v14 = .int .i64 x14_3 ∧ Aside0 (laws_FnTables.l0 kq x14_3 t198 t203 = some r) ∧ Aside0 (kq ≤ kj36) ∧ Aside0 (Kd.R (Kd.int .i64) 3 w' w.heap.size (fun k_ => some k_ ≠ ((.slice Ao14 t203.length co14) : Value).ownBlock ∧ some k_ ≠ ((.slice Ao20 t209.length co20) : Value).ownBlock ∧ some k_ ≠ ((.slice Ao43 t216.length co43) : Value).ownBlock) (.slice Ao10 t198.length co10) t198) ∧ Aside0 (Kd.R (Kd.int .i64) 3 w' w.heap.size (fun k_ => some k_ ≠ ((.slice Ao10 t198.length co10) : Value).ownBlock ∧ some k_ ≠ ((.slice Ao20 t209.length co20) : Value).ownBlock ∧ some k_ ≠ ((.slice Ao43 t216.length co43) : Value).ownBlock) (.slice Ao14 t203.length co14) t203) ∧ Aside0 (Kd.R (Kd.int .i64) 3 w' w.heap.size (fun k_ => some k_ ≠ ((.slice Ao10 t198.length co10) : Value).ownBlock ∧ some k_ ≠ ((.slice Ao14 t203.length co14) : Value).ownBlock ∧ some k_ ≠ ((.slice Ao43 t216.length co43) : Value).ownBlock) (.slice Ao20 t209.length co20) t209) ∧ Aside0 (Kd.R (Kd.int .i64) 3 w' w.heap.size (fun k_ => some k_ ≠ ((.slice Ao10 t198.length co10) : Value).ownBlock ∧ some k_ ≠ ((.slice Ao14 t203.length co14) : Value).ownBlock ∧ some k_ ≠ ((.slice Ao20 t209.length co20) : Value).ownBlock) (.slice Ao43 t216.length co43) t216) ∧ Aside0 (w'.heap[gb202]? = some (.cells #[(.slice Ao10 t198.length co10)] 36 (0, 0))) ∧ Aside0 (w'.heap[gb208]? = some (.cells #[(.slice Ao14 t203.length co14)] 36 (0, 0))) ∧ Aside0 (w'.heap[gb214]? = some (.cells #[(.slice Ao20 t209.length co20)] 36 (0, 0))) ∧ Aside0 (w'.heap[gb221]? = some (.cells #[(.slice Ao43 t216.length co43)] 36 (0, 0))) ∧ Aside0 (Below w.heap.size w w'))
                  case atStart => exact ⟨(0), (by first | rfl | (simp; done) | (simp [*]; done)), H', ⟨Nat.le_refl _⟩, ⟨by (with_reducible repeat (first | apply Kd.R_alloc | apply Kd.R_drewN | apply Kd.R_drew)); exact HO_203000.out⟩, ⟨by (with_reducible repeat (first | apply Kd.R_alloc | apply Kd.R_drewN | apply Kd.R_drew)); exact HO_209000.out⟩, ⟨by (with_reducible repeat (first | apply Kd.R_alloc | apply Kd.R_drewN | apply Kd.R_drew)); exact HO_215000.out⟩, ⟨by (with_reducible repeat (first | apply Kd.R_alloc | apply Kd.R_drewN | apply Kd.R_drew)); exact HO_222000.out⟩, ⟨by (with_reducible repeat (first | refine blk_drewN ?_ _ | refine blk_drew ?_ | refine blk_alloc ?_ _)); exact BK202.out⟩, ⟨by (with_reducible repeat (first | refine blk_drewN ?_ _ | refine blk_drew ?_ | refine blk_alloc ?_ _)); exact BK208.out⟩, ⟨by (with_reducible repeat (first | refine blk_drewN ?_ _ | refine blk_drew ?_ | refine blk_alloc ?_ _)); exact BK214.out⟩, ⟨by (with_reducible repeat (first | refine blk_drewN ?_ _ | refine blk_drew ?_ | refine blk_alloc ?_ _)); exact BK221.out⟩, ⟨by repeat (first | (with_reducible first | exact HB.out | apply below_alloc | apply pw_below_drewN | apply below_drew1 | refine below_set ?_ GE202.out | refine below_set ?_ GE208.out | refine below_set ?_ GE214.out | refine below_set ?_ GE221.out) | exact HB.out)⟩⟩
                  case round =>
                    clear H'
                    try clear c1
                    try clear c2
                    try clear p2
                    try clear c3
                    try clear c4
                    try clear c5
                    try clear c6
                    try clear c7
                    try clear c8
                    try clear c15
                    try clear c21
                    try clear c22
                    try clear c24
                    try clear c24b0
                    try clear c24b1
                    try clear c25
                    try clear c26
                    try clear c26b0
                    try clear c27
                    try clear c27b0
                    try clear c27b1
                    try clear c27b2
                    try clear c28
                    try clear c29
                    try clear c30
                    try clear c33
                    try clear c34
                    try clear c38
                    try clear c39
                    try clear c44
                    try clear c45
                    try clear c46
                    try clear c48
                    try clear c48b0
                    try clear c48b1
                    try clear c49
                    try clear c50
                    try clear c50b0
                    try clear c50b1
                    try clear c50b2
                    try clear c52
                    try clear c52b0
                    try clear c52b1
                    try clear c54
                    try clear c55
                    try clear c56
                    try clear c58
                    try clear c59
                    try clear c64
                    try clear c65
                    try clear c66
                    try clear c68
                    try clear c69
                    try clear c72
                    try clear c73
                    try clear c74
                    try clear c76
                    try clear c77
                    try clear c79
                    try clear hcz11_0
                    try clear hcz16_0
                    try clear hcz17_0
                    try clear hcz23_0
                    try clear hcz31_0
                    try clear hcz35_0
                    try clear hcz40_0
                    try clear hcz47_0
                    try clear hcz57_0
                    try clear hcz60_0
                    try clear hcz62_0
                    try clear hcz67_0
                    try clear hcz70_0
                    try clear hcz75_0
                    try clear hcz78_0
                    try clear hfz11_0
                    try clear hfz16_0
                    try clear hfz17_0
                    try clear hfz23_0
                    try clear hfz31_0
                    try clear hfz35_0
                    try clear hfz40_0
                    try clear hfz47_0
                    try clear hfz57_0
                    try clear hfz60_0
                    try clear hfz62_0
                    try clear hfz67_0
                    try clear hfz70_0
                    try clear hfz75_0
                    try clear hfz78_0
                    try clear p2
                    obtain ⟨x14_3, rfl, HA, HK3, HO_203000, HO_209000, HO_215000, HO_222000, BK202, BK208, BK214, BK221, HB⟩ := hrel
                    cases gk with
                    | zero => exact absurd HA.out (by simp [laws_FnTables.l0])
                    | succ k3 =>
                      have H := HA.out
                      clear HA
                      simp only [laws_FnTables.l0] at H
                      have HC80 := Aside0.mk H
                      clear H
                      go_upto_region 14 with (fail)
                      go_cut [97] (fun v97 wc => ∃ (kq : Nat) (x97_79 : Bool), v97 = .bool x97_79 ∧ Aside0 (laws_FnTables.j3 kq x14_3 x97_79 t198 t203 = some r) ∧ Aside0 (kq ≤ k3) ∧ Aside0 (Kd.R (Kd.int .i64) 3 wc w.heap.size (fun k_ => some k_ ≠ ((.slice Ao14 t203.length co14) : Value).ownBlock ∧ some k_ ≠ ((.slice Ao20 t209.length co20) : Value).ownBlock ∧ some k_ ≠ ((.slice Ao43 t216.length co43) : Value).ownBlock) (.slice Ao10 t198.length co10) t198) ∧ Aside0 (Kd.R (Kd.int .i64) 3 wc w.heap.size (fun k_ => some k_ ≠ ((.slice Ao10 t198.length co10) : Value).ownBlock ∧ some k_ ≠ ((.slice Ao20 t209.length co20) : Value).ownBlock ∧ some k_ ≠ ((.slice Ao43 t216.length co43) : Value).ownBlock) (.slice Ao14 t203.length co14) t203) ∧ Aside0 (Kd.R (Kd.int .i64) 3 wc w.heap.size (fun k_ => some k_ ≠ ((.slice Ao10 t198.length co10) : Value).ownBlock ∧ some k_ ≠ ((.slice Ao14 t203.length co14) : Value).ownBlock ∧ some k_ ≠ ((.slice Ao43 t216.length co43) : Value).ownBlock) (.slice Ao20 t209.length co20) t209) ∧ Aside0 (Kd.R (Kd.int .i64) 3 wc w.heap.size (fun k_ => some k_ ≠ ((.slice Ao10 t198.length co10) : Value).ownBlock ∧ some k_ ≠ ((.slice Ao14 t203.length co14) : Value).ownBlock ∧ some k_ ≠ ((.slice Ao20 t209.length co20) : Value).ownBlock) (.slice Ao43 t216.length co43) t216) ∧ Aside0 (wc.heap[gb202]? = some (.cells #[(.slice Ao10 t198.length co10)] 36 (0, 0))) ∧ Aside0 (wc.heap[gb208]? = some (.cells #[(.slice Ao14 t203.length co14)] 36 (0, 0))) ∧ Aside0 (wc.heap[gb214]? = some (.cells #[(.slice Ao20 t209.length co20)] 36 (0, 0))) ∧ Aside0 (wc.heap[gb221]? = some (.cells #[(.slice Ao43 t216.length co43)] 36 (0, 0))) ∧ Aside0 (Below w.heap.size w wc))
                      case first =>
                        have H := HC80.out
                        clear HC80
                        by_cases c81 : x14_3 < (t198.length : Int)
                        · rw [if_pos c81] at H
                          have c81b0 : decide (x14_3 < (t198.length : Int)) = true := decide_eq_true c81
                          clear c81
                          (first | rw [c81b0] | (simp only [i64_w, i32_w]; rw [c81b0]) | skip)
                          have H' := Aside0.mk H
                          clear H
                          have hnb82 := NB202_208.out
                          have hnc82 := NB208_202.out
                          have hnb83 := NB202_214.out
                          have hnc83 := NB214_202.out
                          have hnb84 := NB202_221.out
                          have hnc84 := NB221_202.out
                          have hcz85_0 : wr.cell? ⟨gb202, 0, none⟩ = some (.slice Ao10 t198.length co10) := (blk_cell BK202.out 0).trans rfl
                          have hfz85_0 := blk_frozen BK202.out 0
                          go_wp2
                          go_meet
                          case rel => exact ⟨_, (decide (x14_3 < 20)), (by first | rfl | (simp; done) | (simp [*]; done)), H', ⟨by have := HJ6.out; have := HJ36.out; have := HK3.out; first | omega | exact Nat.le_refl _⟩, ⟨by (with_reducible repeat (first | apply Kd.R_alloc | apply Kd.R_drewN | apply Kd.R_drew)); exact HO_203000.out⟩, ⟨by (with_reducible repeat (first | apply Kd.R_alloc | apply Kd.R_drewN | apply Kd.R_drew)); exact HO_209000.out⟩, ⟨by (with_reducible repeat (first | apply Kd.R_alloc | apply Kd.R_drewN | apply Kd.R_drew)); exact HO_215000.out⟩, ⟨by (with_reducible repeat (first | apply Kd.R_alloc | apply Kd.R_drewN | apply Kd.R_drew)); exact HO_222000.out⟩, ⟨by (with_reducible repeat (first | refine blk_drewN ?_ _ | refine blk_drew ?_ | refine blk_alloc ?_ _)); exact BK202.out⟩, ⟨by (with_reducible repeat (first | refine blk_drewN ?_ _ | refine blk_drew ?_ | refine blk_alloc ?_ _)); exact BK208.out⟩, ⟨by (with_reducible repeat (first | refine blk_drewN ?_ _ | refine blk_drew ?_ | refine blk_alloc ?_ _)); exact BK214.out⟩, ⟨by (with_reducible repeat (first | refine blk_drewN ?_ _ | refine blk_drew ?_ | refine blk_alloc ?_ _)); exact BK221.out⟩, ⟨by repeat (first | (with_reducible first | exact HB.out | apply below_alloc | apply pw_below_drewN | apply below_drew1 | refine below_set ?_ GE202.out | refine below_set ?_ GE208.out | refine below_set ?_ GE214.out | refine below_set ?_ GE221.out) | exact HB.out)⟩⟩
                        · rw [if_neg c81] at H
                          have c81b0 : decide (x14_3 < (t198.length : Int)) = false := decide_eq_false c81
                          clear c81
                          (first | rw [c81b0] | (simp only [i64_w, i32_w]; rw [c81b0]) | skip)
                          have H' := Aside0.mk H
                          clear H
                          have hnb86 := NB202_208.out
                          have hnc86 := NB208_202.out
                          have hnb87 := NB202_214.out
                          have hnc87 := NB214_202.out
                          have hnb88 := NB202_221.out
                          have hnc88 := NB221_202.out
                          have hcz89_0 : wr.cell? ⟨gb202, 0, none⟩ = some (.slice Ao10 t198.length co10) := (blk_cell BK202.out 0).trans rfl
                          have hfz89_0 := blk_frozen BK202.out 0
                          go_wp2
                          go_meet
                          case rel => exact ⟨_, (false), (by first | rfl | (simp; done) | (simp [*]; done)), H', ⟨by have := HJ6.out; have := HJ36.out; have := HK3.out; first | omega | exact Nat.le_refl _⟩, ⟨by (with_reducible repeat (first | apply Kd.R_alloc | apply Kd.R_drewN | apply Kd.R_drew)); exact HO_203000.out⟩, ⟨by (with_reducible repeat (first | apply Kd.R_alloc | apply Kd.R_drewN | apply Kd.R_drew)); exact HO_209000.out⟩, ⟨by (with_reducible repeat (first | apply Kd.R_alloc | apply Kd.R_drewN | apply Kd.R_drew)); exact HO_215000.out⟩, ⟨by (with_reducible repeat (first | apply Kd.R_alloc | apply Kd.R_drewN | apply Kd.R_drew)); exact HO_222000.out⟩, ⟨by (with_reducible repeat (first | refine blk_drewN ?_ _ | refine blk_drew ?_ | refine blk_alloc ?_ _)); exact BK202.out⟩, ⟨by (with_reducible repeat (first | refine blk_drewN ?_ _ | refine blk_drew ?_ | refine blk_alloc ?_ _)); exact BK208.out⟩, ⟨by (with_reducible repeat (first | refine blk_drewN ?_ _ | refine blk_drew ?_ | refine blk_alloc ?_ _)); exact BK214.out⟩, ⟨by (with_reducible repeat (first | refine blk_drewN ?_ _ | refine blk_drew ?_ | refine blk_alloc ?_ _)); exact BK221.out⟩, ⟨by repeat (first | (with_reducible first | exact HB.out | apply below_alloc | apply pw_below_drewN | apply below_drew1 | refine below_set ?_ GE202.out | refine below_set ?_ GE208.out | refine below_set ?_ GE214.out | refine below_set ?_ GE221.out) | exact HB.out)⟩⟩
                      case rest =>
                        clear HC80
                        try clear c1
                        try clear c2
                        try clear p2
                        try clear c3
                        try clear c4
                        try clear c5
                        try clear c6
                        try clear c7
                        try clear c8
                        try clear c15
                        try clear c21
                        try clear c22
                        try clear c24
                        try clear c24b0
                        try clear c24b1
                        try clear c25
                        try clear c26
                        try clear c26b0
                        try clear c27
                        try clear c27b0
                        try clear c27b1
                        try clear c27b2
                        try clear c28
                        try clear c29
                        try clear c30
                        try clear c33
                        try clear c34
                        try clear c38
                        try clear c39
                        try clear c44
                        try clear c45
                        try clear c46
                        try clear c48
                        try clear c48b0
                        try clear c48b1
                        try clear c49
                        try clear c50
                        try clear c50b0
                        try clear c50b1
                        try clear c50b2
                        try clear c52
                        try clear c52b0
                        try clear c52b1
                        try clear c54
                        try clear c55
                        try clear c56
                        try clear c58
                        try clear c59
                        try clear c64
                        try clear c65
                        try clear c66
                        try clear c68
                        try clear c69
                        try clear c72
                        try clear c73
                        try clear c74
                        try clear c76
                        try clear c77
                        try clear c79
                        try clear c81
                        try clear c81b0
                        try clear c82
                        try clear c83
                        try clear c84
                        try clear c86
                        try clear c87
                        try clear c88
                        try clear hcz11_0
                        try clear hcz16_0
                        try clear hcz17_0
                        try clear hcz23_0
                        try clear hcz31_0
                        try clear hcz35_0
                        try clear hcz40_0
                        try clear hcz47_0
                        try clear hcz57_0
                        try clear hcz60_0
                        try clear hcz62_0
                        try clear hcz67_0
                        try clear hcz70_0
                        try clear hcz75_0
                        try clear hcz78_0
                        try clear hcz85_0
                        try clear hcz89_0
                        try clear hfz11_0
                        try clear hfz16_0
                        try clear hfz17_0
                        try clear hfz23_0
                        try clear hfz31_0
                        try clear hfz35_0
                        try clear hfz40_0
                        try clear hfz47_0
                        try clear hfz57_0
                        try clear hfz60_0
                        try clear hfz62_0
                        try clear hfz67_0
                        try clear hfz70_0
                        try clear hfz75_0
                        try clear hfz78_0
                        try clear hfz85_0
                        try clear hfz89_0
                        try clear p2
                        obtain ⟨kq, x97_79, rfl, HA, HJ79, HO_203000, HO_209000, HO_215000, HO_222000, BK202, BK208, BK214, BK221, HB⟩ := hcut
                        cases kq with
                        | zero => exact absurd HA.out (by simp [laws_FnTables.j3])
                        | succ kj79 =>
                          have H := HA.out
                          clear HA
                          simp only [laws_FnTables.j3] at H
                          by_cases c90 : x97_79 = true
                          · subst c90
                            have H1 : (if 0 ≤ x14_3 then (if x14_3 < (t198.length : Int) then ((impl_TableFind.f kj79 t203 (rd t198 x14_3)).bind fun t225 => (if t225 = x14_3 then (laws_FnTables.l0 kj79 (wrap64 (x14_3 + 1)) t198 t203) else (some false))) else (none)) else (none)) = some r := by rw [if_pos rfl] at H; exact H
                            clear H
                            have H := H1
                            clear H1
                            by_cases c91 : 0 ≤ x14_3
                            · rw [if_pos c91] at H
                              have c91b0 : decide (0 ≤ x14_3) = true := decide_eq_true c91
                              clear c91
                              by_cases c92 : x14_3 < (t198.length : Int)
                              · rw [if_pos c92] at H
                                have c92b0 : decide (x14_3 < (t198.length : Int)) = true := decide_eq_true c92
                                clear c92
                                replace H := Option.bind_eq_some_iff.mp H
                                obtain ⟨t225, A930, H⟩ := H
                                replace H : (if t225 = x14_3 then (laws_FnTables.l0 kj79 (wrap64 (x14_3 + 1)) t198 t203) else (some false)) = some r := H
                                have A93 := Aside0.mk A930
                                clear A930
                                by_cases c94 : t225 = x14_3
                                · rw [if_pos c94] at H
                                  have c94b0 : (t225 == x14_3) = true := beq_iff_eq.mpr c94
                                  have c94b1 : (t225 != x14_3) = false := bne_eq_false_iff_eq.mpr c94
                                  clear c94
                                  have H' := Aside0.mk H
                                  clear H
                                  try go_wp2
                                  have n0_ := Aside0.mk (Kd.R_drew HO_203000.out)
                                  have n1_ := Aside0.mk (Kd.R_drew HO_209000.out)
                                  have n2_ := Aside0.mk (Kd.R_drew HO_215000.out)
                                  have n3_ := Aside0.mk (Kd.R_drew HO_222000.out)
                                  have n4_ := Aside0.mk (blk_drew BK202.out)
                                  have n5_ := Aside0.mk (blk_drew BK208.out)
                                  have n6_ := Aside0.mk (blk_drew BK214.out)
                                  have n7_ := Aside0.mk (blk_drew BK221.out)
                                  have n8_ := Aside0.mk (below_drew1 HB.out)
                                  clear HO_203000
                                  clear HO_209000
                                  clear HO_215000
                                  clear HO_222000
                                  clear BK202
                                  clear BK208
                                  clear BK214
                                  clear BK221
                                  clear HB
                                  have HO_203000 := n0_
                                  have HO_209000 := n1_
                                  have HO_215000 := n2_
                                  have HO_222000 := n3_
                                  have BK202 := n4_
                                  have BK208 := n5_
                                  have BK214 := n6_
                                  have BK221 := n7_
                                  have HB := n8_
                                  clear n0_ n1_ n2_ n3_ n4_ n5_ n6_ n7_ n8_
                                  have p224 : 0 ≤ (x14_3 : Int) := of_decide_eq_true (by first | (with_reducible assumption) | assumption)
                                  have q224 : x14_3 < (t198.length : Int) := of_decide_eq_true (by first | (with_reducible assumption) | assumption)
                                  obtain ⟨ad224, e224, hx224_0⟩ := Kd.at_int (Kd.R_reads' HO_203000.out).2.2 x14_3 p224 q224
                                  cases e224
                                  replace p224 := eq_true p224
                                  replace q224 := eq_true q224
                                  refine start_ (n := 9) (S := fun w' => w'.cell? ⟨gb208, 0, none⟩ = some (.slice Ao14 t203.length co14) ∧ w'.cell? ⟨gb202, 0, none⟩ = some (.slice (some ad224) t198.length co10) ∧ w'.cell? (ad224.add (x14_3).toNat) = some (.int .i64 (rd t198 x14_3))) (ds := []) #[false, false, false, false, false, false, false, false, false] (by kernel_rfl) rfl rfl ⟨(blk_cell BK208.out 0).trans rfl, (blk_cell BK202.out 0).trans rfl, hx224_0⟩ (fun hHeld => ?_); refine with_tabW laws_FnTables.tab16 laws_FnTables.bits16 (fun HT_ HW_ => ?_)
                                  generalize wc.drew = w95 at HO_203000 HO_209000 HO_215000 HO_222000 BK202 BK208 BK214 BK221 HB hx224_0 hHeld ⊢
                                  refine pure_ (i := 1) (N := some 101) (v := ?_) (a' := ?_) #[false, true, false, false, false, false, false, false, false] rfl rfl (any_of HT_.out (by kernel_rfl)) (fun _ _ _ h => h) (Or.inl ⟨by rfl, ?_⟩) ?_ ?_
                                  rotate_left
                                  · intro w'
                                    go_simp
                                    with_reducible rfl
                                  rotate_left
                                  · simp only [Act.put, List.setIfInBounds_toArray, List.set_cons_zero, List.set_cons_succ, i64_w, i32_w]
                                    rfl
                                  refine pure_ (i := 3) (N := some 103) (v := ?_) (a' := ?_) #[false, true, false, true, false, false, false, false, false] rfl rfl (any_of HT_.out (by kernel_rfl)) (fun _ _ _ h => h) (Or.inl ⟨by rfl, ?_⟩) ?_ ?_
                                  rotate_left
                                  · intro w'
                                    go_simp
                                    with_reducible rfl
                                  rotate_left
                                  · simp only [Act.put, List.setIfInBounds_toArray, List.set_cons_zero, List.set_cons_succ, i64_w, i32_w]
                                    rfl
                                  refine pure_ (i := 7) (N := some 107) (v := ?_) (a' := ?_) #[false, true, false, true, false, false, false, true, false] rfl rfl (any_of HT_.out (by kernel_rfl)) (fun _ _ _ h => h) (Or.inl ⟨by rfl, ?_⟩) ?_ ?_
                                  rotate_left
                                  · intro w'
                                    go_simp
                                    with_reducible rfl
                                  rotate_left
                                  · simp only [Act.put, List.setIfInBounds_toArray, List.set_cons_zero, List.set_cons_succ, i64_w, i32_w]
                                    rfl
                                  refine take_ (i := 0) (N := some 100) (v := ?_) (a' := ?_) #[true, true, false, true, false, false, false, true, false] rfl rfl (take_ofW HT_.out HW_.out (by kernel_rfl)) (fun _ _ _ h => h) (Or.inl ⟨by rfl, ?_⟩) hHeld ?_ ?_
                                  rotate_left
                                  · rintro w' ⟨s0, s1, s2⟩
                                    go_simp
                                    with_reducible rfl
                                  rotate_left
                                  · simp only [Act.put, List.setIfInBounds_toArray, List.set_cons_zero, List.set_cons_succ, i64_w, i32_w]
                                    rfl
                                  refine take_ (i := 2) (N := some 102) (v := ?_) (a' := ?_) #[true, true, true, true, false, false, false, true, false] rfl rfl (take_ofW HT_.out HW_.out (by kernel_rfl)) (fun _ _ _ h => h) (Or.inl ⟨by rfl, ?_⟩) hHeld ?_ ?_
                                  rotate_left
                                  · rintro w' ⟨s0, s1, s2⟩
                                    go_simp
                                    with_reducible rfl
                                  rotate_left
                                  · simp only [Act.put, List.setIfInBounds_toArray, List.set_cons_zero, List.set_cons_succ, i64_w, i32_w]
                                    rfl
                                  refine pure_ (i := 4) (N := some 104) (v := ?_) (a' := ?_) #[true, true, true, true, true, false, false, true, false] rfl rfl (any_of HT_.out (by kernel_rfl)) (fun _ _ _ h => h) (Or.inl ⟨by rfl, ?_⟩) ?_ ?_
                                  rotate_left
                                  · intro w'
                                    go_simp
                                    with_reducible rfl
                                  rotate_left
                                  · simp only [Act.put, List.setIfInBounds_toArray, List.set_cons_zero, List.set_cons_succ, i64_w, i32_w]
                                    rfl
                                  refine take_ (i := 5) (N := some 105) (v := ?_) (a' := ?_) #[true, true, true, true, true, true, false, true, false] rfl rfl (take_ofW HT_.out HW_.out (by kernel_rfl)) (fun _ _ _ h => h) (Or.inl ⟨by rfl, ?_⟩) hHeld ?_ ?_
                                  rotate_left
                                  · rintro w' ⟨s0, s1, s2⟩
                                    go_simp
                                    with_reducible rfl
                                  rotate_left
                                  · simp only [Act.put, List.setIfInBounds_toArray, List.set_cons_zero, List.set_cons_succ, i64_w, i32_w]
                                    rfl
                                  refine one_ (i := 6) (N := some 106) #[true, true, true, true, true, true, true, true, false] rfl rfl (one_of HT_.out (by kernel_rfl)) (by decide) (fun K hK => ?_)
                                  refine goes_ Try.func26 (by kernel_rfl) rfl #[.agg #[.slice Ao14 t203.length co14], .int .i64 (rd t198 x14_3)] (by rfl) rfl rfl (by (try simp only [List.map_toArray, List.map_cons, List.map_nil]); first | done | rfl | (simp only [List.length_drop, List.length_take]; rfl)) ?_
                                  with_reducible refine (impl_TableFind.calls kj79 _ _ t203 (rd t198 x14_3) t225 _ ?side1 ?side2 A93.out).mono ?_
                                  (case side1 => repeat (first | exact (Kd.R_reads' HO_209000.out).2.2 | (with_reducible refine Kd.C_alloc ?_ _) | (with_reducible refine Kd.C_drewN ?_ _) | (with_reducible refine Kd.C_drew ?_)))
                                  (case side2 => exact (Kd.R_reads' HO_209000.out).2.1)
                                  rintro e w96 ⟨rfl, hb⟩
                                  have HS2_ := (hb.cell (World.block_lt_of_cell? _ _ (hHeld.2.2))).trans (hHeld.2.2)
                                  refine ⟨_, rfl, ?_⟩
                                  have n0_ := Aside0.mk (Kd.R_below (by (with_reducible repeat (first | apply Kd.R_alloc | apply Kd.R_drewN | apply Kd.R_drew)); exact HO_203000.out) hb)
                                  have n1_ := Aside0.mk (Kd.R_below (by (with_reducible repeat (first | apply Kd.R_alloc | apply Kd.R_drewN | apply Kd.R_drew)); exact HO_209000.out) hb)
                                  have n2_ := Aside0.mk (Kd.R_below (by (with_reducible repeat (first | apply Kd.R_alloc | apply Kd.R_drewN | apply Kd.R_drew)); exact HO_215000.out) hb)
                                  have n3_ := Aside0.mk (Kd.R_below (by (with_reducible repeat (first | apply Kd.R_alloc | apply Kd.R_drewN | apply Kd.R_drew)); exact HO_222000.out) hb)
                                  have n4_ := Aside0.mk (blk_below (g := gb202) (o := .cells #[.slice (some ad224) t198.length co10] 36 (0, 0)) (by (with_reducible repeat (first | refine blk_drewN ?_ _ | refine blk_drew ?_ | refine blk_alloc ?_ _)); exact BK202.out) hb)
                                  have n5_ := Aside0.mk (blk_below (g := gb208) (o := .cells #[.slice Ao14 t203.length co14] 36 (0, 0)) (by (with_reducible repeat (first | refine blk_drewN ?_ _ | refine blk_drew ?_ | refine blk_alloc ?_ _)); exact BK208.out) hb)
                                  have n6_ := Aside0.mk (blk_below (g := gb214) (o := .cells #[.slice Ao20 t209.length co20] 36 (0, 0)) (by (with_reducible repeat (first | refine blk_drewN ?_ _ | refine blk_drew ?_ | refine blk_alloc ?_ _)); exact BK214.out) hb)
                                  have n7_ := Aside0.mk (blk_below (g := gb221) (o := .cells #[.slice Ao43 t216.length co43] 36 (0, 0)) (by (with_reducible repeat (first | refine blk_drewN ?_ _ | refine blk_drew ?_ | refine blk_alloc ?_ _)); exact BK221.out) hb)
                                  have n8_ := Aside0.mk (below_step (by repeat (first | (with_reducible first | exact HB.out | apply below_alloc | apply pw_below_drewN | apply below_drew1 | refine below_set ?_ GE202.out | refine below_set ?_ GE208.out | refine below_set ?_ GE214.out | refine below_set ?_ GE221.out) | exact HB.out)) hb)
                                  clear HO_203000
                                  clear HO_209000
                                  clear HO_215000
                                  clear HO_222000
                                  clear BK202
                                  clear BK208
                                  clear BK214
                                  clear BK221
                                  clear HB
                                  have HO_203000 := n0_
                                  have HO_209000 := n1_
                                  have HO_215000 := n2_
                                  have HO_222000 := n3_
                                  have BK202 := n4_
                                  have BK208 := n5_
                                  have BK214 := n6_
                                  have BK221 := n7_
                                  have HB := n8_
                                  clear n0_ n1_ n2_ n3_ n4_ n5_ n6_ n7_ n8_
                                  (try clear hb)
                                  (try clear hb2)
                                  (try clear hk)
                                  (try clear hi)
                                  refine hK.out _ _ ⟨(blk_cell BK208.out 0).trans rfl, (blk_cell BK202.out 0).trans rfl, HS2_⟩ (fun hHeld => ?_)
                                  clear hK K
                                  refine norm_ (a' := ?_) ?_ ?_
                                  rotate_left
                                  · show Act.put _ (some 106) _ = _
                                    simp only [Act.put, List.setIfInBounds_toArray, List.set_cons_zero, List.set_cons_succ, i64_w, i32_w]
                                    rfl
                                  refine pure_ (i := 8) (N := some 108) (v := ?_) (a' := ?_) #[true, true, true, true, true, true, true, true, true] rfl rfl (any_of HT_.out (by kernel_rfl)) (fun _ _ _ h => h) (Or.inl ⟨by rfl, ?_⟩) ?_ ?_
                                  rotate_left
                                  · intro w'
                                    go_simp
                                    with_reducible rfl
                                  rotate_left
                                  · simp only [Act.put, List.setIfInBounds_toArray, List.set_cons_zero, List.set_cons_succ, i64_w, i32_w]
                                    rfl
                                  refine done_ (done_of HT_.out (by kernel_rfl)) ?_
                                  try go_wp2
                                  go_roundg kj79
                                  case measure => have := HJ6.out; have := HJ36.out; have := HK3.out; have := HJ79.out; omega
                                  case rel => exact ⟨(wrap64 (x14_3 + 1)), (by first | rfl | (simp; done) | (simp [*]; done)), H', ⟨by have := HJ6.out; have := HJ36.out; have := HK3.out; have := HJ79.out; omega⟩, ⟨by (with_reducible repeat (first | apply Kd.R_alloc | apply Kd.R_drewN | apply Kd.R_drew)); exact HO_203000.out⟩, ⟨by (with_reducible repeat (first | apply Kd.R_alloc | apply Kd.R_drewN | apply Kd.R_drew)); exact HO_209000.out⟩, ⟨by (with_reducible repeat (first | apply Kd.R_alloc | apply Kd.R_drewN | apply Kd.R_drew)); exact HO_215000.out⟩, ⟨by (with_reducible repeat (first | apply Kd.R_alloc | apply Kd.R_drewN | apply Kd.R_drew)); exact HO_222000.out⟩, ⟨by (with_reducible repeat (first | refine blk_drewN ?_ _ | refine blk_drew ?_ | refine blk_alloc ?_ _)); exact BK202.out⟩, ⟨by (with_reducible repeat (first | refine blk_drewN ?_ _ | refine blk_drew ?_ | refine blk_alloc ?_ _)); exact BK208.out⟩, ⟨by (with_reducible repeat (first | refine blk_drewN ?_ _ | refine blk_drew ?_ | refine blk_alloc ?_ _)); exact BK214.out⟩, ⟨by (with_reducible repeat (first | refine blk_drewN ?_ _ | refine blk_drew ?_ | refine blk_alloc ?_ _)); exact BK221.out⟩, ⟨by repeat (first | (with_reducible first | exact HB.out | apply below_alloc | apply pw_below_drewN | apply below_drew1 | refine below_set ?_ GE202.out | refine below_set ?_ GE208.out | refine below_set ?_ GE214.out | refine below_set ?_ GE221.out) | exact HB.out)⟩⟩
                                · rw [if_neg c94] at H
                                  have c94b0 : (t225 == x14_3) = false := beq_eq_false_iff_ne.mpr c94
                                  have c94b1 : (t225 != x14_3) = true := bne_iff_ne.mpr c94
                                  obtain rfl := Option.some.inj H
                                  try go_wp2
                                  have n0_ := Aside0.mk (Kd.R_drew HO_203000.out)
                                  have n1_ := Aside0.mk (Kd.R_drew HO_209000.out)
                                  have n2_ := Aside0.mk (Kd.R_drew HO_215000.out)
                                  have n3_ := Aside0.mk (Kd.R_drew HO_222000.out)
                                  have n4_ := Aside0.mk (blk_drew BK202.out)
                                  have n5_ := Aside0.mk (blk_drew BK208.out)
                                  have n6_ := Aside0.mk (blk_drew BK214.out)
                                  have n7_ := Aside0.mk (blk_drew BK221.out)
                                  have n8_ := Aside0.mk (below_drew1 HB.out)
                                  clear HO_203000
                                  clear HO_209000
                                  clear HO_215000
                                  clear HO_222000
                                  clear BK202
                                  clear BK208
                                  clear BK214
                                  clear BK221
                                  clear HB
                                  have HO_203000 := n0_
                                  have HO_209000 := n1_
                                  have HO_215000 := n2_
                                  have HO_222000 := n3_
                                  have BK202 := n4_
                                  have BK208 := n5_
                                  have BK214 := n6_
                                  have BK221 := n7_
                                  have HB := n8_
                                  clear n0_ n1_ n2_ n3_ n4_ n5_ n6_ n7_ n8_
                                  have p224 : 0 ≤ (x14_3 : Int) := of_decide_eq_true (by first | (with_reducible assumption) | assumption)
                                  have q224 : x14_3 < (t198.length : Int) := of_decide_eq_true (by first | (with_reducible assumption) | assumption)
                                  obtain ⟨ad224, e224, hx224_0⟩ := Kd.at_int (Kd.R_reads' HO_203000.out).2.2 x14_3 p224 q224
                                  cases e224
                                  replace p224 := eq_true p224
                                  replace q224 := eq_true q224
                                  refine start_ (n := 9) (S := fun w' => w'.cell? ⟨gb208, 0, none⟩ = some (.slice Ao14 t203.length co14) ∧ w'.cell? ⟨gb202, 0, none⟩ = some (.slice (some ad224) t198.length co10) ∧ w'.cell? (ad224.add (x14_3).toNat) = some (.int .i64 (rd t198 x14_3))) (ds := []) #[false, false, false, false, false, false, false, false, false] (by kernel_rfl) rfl rfl ⟨(blk_cell BK208.out 0).trans rfl, (blk_cell BK202.out 0).trans rfl, hx224_0⟩ (fun hHeld => ?_); refine with_tabW laws_FnTables.tab16 laws_FnTables.bits16 (fun HT_ HW_ => ?_)
                                  generalize wc.drew = w97 at HO_203000 HO_209000 HO_215000 HO_222000 BK202 BK208 BK214 BK221 HB hx224_0 hHeld ⊢
                                  refine pure_ (i := 1) (N := some 101) (v := ?_) (a' := ?_) #[false, true, false, false, false, false, false, false, false] rfl rfl (any_of HT_.out (by kernel_rfl)) (fun _ _ _ h => h) (Or.inl ⟨by rfl, ?_⟩) ?_ ?_
                                  rotate_left
                                  · intro w'
                                    go_simp
                                    with_reducible rfl
                                  rotate_left
                                  · simp only [Act.put, List.setIfInBounds_toArray, List.set_cons_zero, List.set_cons_succ, i64_w, i32_w]
                                    rfl
                                  refine pure_ (i := 3) (N := some 103) (v := ?_) (a' := ?_) #[false, true, false, true, false, false, false, false, false] rfl rfl (any_of HT_.out (by kernel_rfl)) (fun _ _ _ h => h) (Or.inl ⟨by rfl, ?_⟩) ?_ ?_
                                  rotate_left
                                  · intro w'
                                    go_simp
                                    with_reducible rfl
                                  rotate_left
                                  · simp only [Act.put, List.setIfInBounds_toArray, List.set_cons_zero, List.set_cons_succ, i64_w, i32_w]
                                    rfl
                                  refine pure_ (i := 7) (N := some 107) (v := ?_) (a' := ?_) #[false, true, false, true, false, false, false, true, false] rfl rfl (any_of HT_.out (by kernel_rfl)) (fun _ _ _ h => h) (Or.inl ⟨by rfl, ?_⟩) ?_ ?_
                                  rotate_left
                                  · intro w'
                                    go_simp
                                    with_reducible rfl
                                  rotate_left
                                  · simp only [Act.put, List.setIfInBounds_toArray, List.set_cons_zero, List.set_cons_succ, i64_w, i32_w]
                                    rfl
                                  refine take_ (i := 0) (N := some 100) (v := ?_) (a' := ?_) #[true, true, false, true, false, false, false, true, false] rfl rfl (take_ofW HT_.out HW_.out (by kernel_rfl)) (fun _ _ _ h => h) (Or.inl ⟨by rfl, ?_⟩) hHeld ?_ ?_
                                  rotate_left
                                  · rintro w' ⟨s0, s1, s2⟩
                                    go_simp
                                    with_reducible rfl
                                  rotate_left
                                  · simp only [Act.put, List.setIfInBounds_toArray, List.set_cons_zero, List.set_cons_succ, i64_w, i32_w]
                                    rfl
                                  refine take_ (i := 2) (N := some 102) (v := ?_) (a' := ?_) #[true, true, true, true, false, false, false, true, false] rfl rfl (take_ofW HT_.out HW_.out (by kernel_rfl)) (fun _ _ _ h => h) (Or.inl ⟨by rfl, ?_⟩) hHeld ?_ ?_
                                  rotate_left
                                  · rintro w' ⟨s0, s1, s2⟩
                                    go_simp
                                    with_reducible rfl
                                  rotate_left
                                  · simp only [Act.put, List.setIfInBounds_toArray, List.set_cons_zero, List.set_cons_succ, i64_w, i32_w]
                                    rfl
                                  refine pure_ (i := 4) (N := some 104) (v := ?_) (a' := ?_) #[true, true, true, true, true, false, false, true, false] rfl rfl (any_of HT_.out (by kernel_rfl)) (fun _ _ _ h => h) (Or.inl ⟨by rfl, ?_⟩) ?_ ?_
                                  rotate_left
                                  · intro w'
                                    go_simp
                                    with_reducible rfl
                                  rotate_left
                                  · simp only [Act.put, List.setIfInBounds_toArray, List.set_cons_zero, List.set_cons_succ, i64_w, i32_w]
                                    rfl
                                  refine take_ (i := 5) (N := some 105) (v := ?_) (a' := ?_) #[true, true, true, true, true, true, false, true, false] rfl rfl (take_ofW HT_.out HW_.out (by kernel_rfl)) (fun _ _ _ h => h) (Or.inl ⟨by rfl, ?_⟩) hHeld ?_ ?_
                                  rotate_left
                                  · rintro w' ⟨s0, s1, s2⟩
                                    go_simp
                                    with_reducible rfl
                                  rotate_left
                                  · simp only [Act.put, List.setIfInBounds_toArray, List.set_cons_zero, List.set_cons_succ, i64_w, i32_w]
                                    rfl
                                  refine one_ (i := 6) (N := some 106) #[true, true, true, true, true, true, true, true, false] rfl rfl (one_of HT_.out (by kernel_rfl)) (by decide) (fun K hK => ?_)
                                  refine goes_ Try.func26 (by kernel_rfl) rfl #[.agg #[.slice Ao14 t203.length co14], .int .i64 (rd t198 x14_3)] (by rfl) rfl rfl (by (try simp only [List.map_toArray, List.map_cons, List.map_nil]); first | done | rfl | (simp only [List.length_drop, List.length_take]; rfl)) ?_
                                  with_reducible refine (impl_TableFind.calls kj79 _ _ t203 (rd t198 x14_3) t225 _ ?side1 ?side2 A93.out).mono ?_
                                  (case side1 => repeat (first | exact (Kd.R_reads' HO_209000.out).2.2 | (with_reducible refine Kd.C_alloc ?_ _) | (with_reducible refine Kd.C_drewN ?_ _) | (with_reducible refine Kd.C_drew ?_)))
                                  (case side2 => exact (Kd.R_reads' HO_209000.out).2.1)
                                  rintro e w98 ⟨rfl, hb⟩
                                  have HS2_ := (hb.cell (World.block_lt_of_cell? _ _ (hHeld.2.2))).trans (hHeld.2.2)
                                  refine ⟨_, rfl, ?_⟩
                                  have n0_ := Aside0.mk (Kd.R_below (by (with_reducible repeat (first | apply Kd.R_alloc | apply Kd.R_drewN | apply Kd.R_drew)); exact HO_203000.out) hb)
                                  have n1_ := Aside0.mk (Kd.R_below (by (with_reducible repeat (first | apply Kd.R_alloc | apply Kd.R_drewN | apply Kd.R_drew)); exact HO_209000.out) hb)
                                  have n2_ := Aside0.mk (Kd.R_below (by (with_reducible repeat (first | apply Kd.R_alloc | apply Kd.R_drewN | apply Kd.R_drew)); exact HO_215000.out) hb)
                                  have n3_ := Aside0.mk (Kd.R_below (by (with_reducible repeat (first | apply Kd.R_alloc | apply Kd.R_drewN | apply Kd.R_drew)); exact HO_222000.out) hb)
                                  have n4_ := Aside0.mk (blk_below (g := gb202) (o := .cells #[.slice (some ad224) t198.length co10] 36 (0, 0)) (by (with_reducible repeat (first | refine blk_drewN ?_ _ | refine blk_drew ?_ | refine blk_alloc ?_ _)); exact BK202.out) hb)
                                  have n5_ := Aside0.mk (blk_below (g := gb208) (o := .cells #[.slice Ao14 t203.length co14] 36 (0, 0)) (by (with_reducible repeat (first | refine blk_drewN ?_ _ | refine blk_drew ?_ | refine blk_alloc ?_ _)); exact BK208.out) hb)
                                  have n6_ := Aside0.mk (blk_below (g := gb214) (o := .cells #[.slice Ao20 t209.length co20] 36 (0, 0)) (by (with_reducible repeat (first | refine blk_drewN ?_ _ | refine blk_drew ?_ | refine blk_alloc ?_ _)); exact BK214.out) hb)
                                  have n7_ := Aside0.mk (blk_below (g := gb221) (o := .cells #[.slice Ao43 t216.length co43] 36 (0, 0)) (by (with_reducible repeat (first | refine blk_drewN ?_ _ | refine blk_drew ?_ | refine blk_alloc ?_ _)); exact BK221.out) hb)
                                  have n8_ := Aside0.mk (below_step (by repeat (first | (with_reducible first | exact HB.out | apply below_alloc | apply pw_below_drewN | apply below_drew1 | refine below_set ?_ GE202.out | refine below_set ?_ GE208.out | refine below_set ?_ GE214.out | refine below_set ?_ GE221.out) | exact HB.out)) hb)
                                  clear HO_203000
                                  clear HO_209000
                                  clear HO_215000
                                  clear HO_222000
                                  clear BK202
                                  clear BK208
                                  clear BK214
                                  clear BK221
                                  clear HB
                                  have HO_203000 := n0_
                                  have HO_209000 := n1_
                                  have HO_215000 := n2_
                                  have HO_222000 := n3_
                                  have BK202 := n4_
                                  have BK208 := n5_
                                  have BK214 := n6_
                                  have BK221 := n7_
                                  have HB := n8_
                                  clear n0_ n1_ n2_ n3_ n4_ n5_ n6_ n7_ n8_
                                  (try clear hb)
                                  (try clear hb2)
                                  (try clear hk)
                                  (try clear hi)
                                  refine hK.out _ _ ⟨(blk_cell BK208.out 0).trans rfl, (blk_cell BK202.out 0).trans rfl, HS2_⟩ (fun hHeld => ?_)
                                  clear hK K
                                  refine norm_ (a' := ?_) ?_ ?_
                                  rotate_left
                                  · show Act.put _ (some 106) _ = _
                                    simp only [Act.put, List.setIfInBounds_toArray, List.set_cons_zero, List.set_cons_succ, i64_w, i32_w]
                                    rfl
                                  refine pure_ (i := 8) (N := some 108) (v := ?_) (a' := ?_) #[true, true, true, true, true, true, true, true, true] rfl rfl (any_of HT_.out (by kernel_rfl)) (fun _ _ _ h => h) (Or.inl ⟨by rfl, ?_⟩) ?_ ?_
                                  rotate_left
                                  · intro w'
                                    go_simp
                                    with_reducible rfl
                                  rotate_left
                                  · simp only [Act.put, List.setIfInBounds_toArray, List.set_cons_zero, List.set_cons_succ, i64_w, i32_w]
                                    rfl
                                  refine done_ (done_of HT_.out (by kernel_rfl)) ?_
                                  try go_wp2
                                  go_ret
                                  exact ⟨by first | rfl | (simp [errW_none, errW_some] <;> rfl) | (simp [*, errW_none, errW_some] <;> rfl), by repeat (first | (with_reducible first | exact HB.out | apply below_alloc | apply pw_below_drewN | apply below_drew1 | refine below_set ?_ GE202.out | refine below_set ?_ GE208.out | refine below_set ?_ GE214.out | refine below_set ?_ GE221.out) | exact HB.out)⟩
                              · rw [if_neg c92] at H
                                exact absurd H (by simp)
                            · rw [if_neg c91] at H
                              exact absurd H (by simp)
                          · replace c90 := Bool.eq_false_iff.mpr c90
                            subst c90
                            have H1 : (some true) = some r := by rw [if_neg (show ¬ (false = true) by decide)] at H; exact H
                            clear H
                            have H := H1
                            clear H1
                            obtain rfl := Option.some.inj H
                            go_wp2
                            go_ret
                            exact ⟨by first | rfl | (simp [errW_none, errW_some] <;> rfl) | (simp [*, errW_none, errW_some] <;> rfl), by repeat (first | (with_reducible first | exact HB.out | apply below_alloc | apply pw_below_drewN | apply below_drew1 | refine below_set ?_ GE202.out | refine below_set ?_ GE208.out | refine below_set ?_ GE214.out | refine below_set ?_ GE221.out) | exact HB.out)⟩

/-- THE ONE PURE STATEMENT of laws_FnTables. -/
def laws_FnTables.Pure : Prop := ∀ (l0 : List Int), l0.length ≤ 9223372036854775807 → (∀ x ∈ l0, (Lit.int .u8 x).wf = true) → ∃ k, laws_FnTables.f k l0 = some true

end Go.Proofs.Ytgnjacjinhadaaa.MFnTables
