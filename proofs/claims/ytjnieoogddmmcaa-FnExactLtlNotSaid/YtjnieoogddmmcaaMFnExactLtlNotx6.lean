-- Written by a program of this session, out of Lean's print of the translation. Not trusted: Lean checks it.
import Derived.Test.YtjnieoogddmmcaaMFnExactLtlNotx0
import Derived.Test.YtjnieoogddmmcaaMFnExactLtlNotx1
import Derived.Test.YtjnieoogddmmcaaMFnExactLtlNotx2
import Derived.Test.YtjnieoogddmmcaaMFnExactLtlNotx3
import Derived.Test.YtjnieoogddmmcaaMFnExactLtlNotx5
namespace Go.Proofs.Ytjnieoogddmmcaa.MFnExactLtlNot
open Go.RowKit Go.Proofs.YtjnieoogddmmcaaW.PrintWords Go.Proofs.YtjnieoogddmmcaaW.PrintLast Go.Proofs.YtjnieoogddmmcaaW.PrintMore
attribute [local go_sem] max2_int min2_int max_two min_two max_three min_three max_four min_four   -- for this text's walks alone
set_option linter.unusedVariables false
set_option linter.unusedSimpArgs false

/-! ### impl_LtlOk: function 17 -/
def impl_LtlOk.f (k : Nat) (l0 : List (S45)) : Option (Bool) := (impl_isTree.f k l0).bind fun t224 => (some t224)
theorem impl_LtlOk.mono : ∀ a0 k, LeO (impl_LtlOk.f k a0) (impl_LtlOk.f (k + 1) a0) := by
  intro a0 k
  unfold impl_LtlOk.f
  repeat' first
      | (with_reducible exact impl_isTree.mono _ _)
      | (with_reducible exact LeO.refl _)
      | (with_reducible exact LeO.none _)
      | (with_reducible refine LeO.ite ?_ ?_)
      | (with_reducible refine LeO.bind ?_ (fun _ => ?_))
      | exact impl_isTree.mono _ _
      | exact LeO.none _
      | refine LeO.ite ?_ ?_
      | refine LeO.bind ?_ (fun _ => ?_)
set_option maxHeartbeats 8000000 in
set_option maxRecDepth 100000 in
theorem impl_LtlOk.calls (k : Nat) (A0 : Option Addr) (c0 : Nat) (l0 : List (S45)) (r : Bool) (w : World) (hr0 : Kd.C k45 w A0 l0.length l0) (hc0 : l0.length ≤ c0) (h : impl_LtlOk.f k l0 = some r) :
    Calls Try.prog 17 #[.slice A0 l0.length c0] w fun e w' => e = .returned (.bool r) ∧ Below w.heap.size w w' := by
  have HR0 := Aside0.mk hr0
  have HC0 := Aside0.mk hc0
  clear hr0 hc0
  have HB := Aside0.mk (Below.refl w.heap.size w)
  have H : ((impl_isTree.f k l0).bind fun t224 => (some t224)) = some r := h
  clear h
  replace H := Option.bind_eq_some_iff.mp H
  obtain ⟨t224, A20, H⟩ := H
  replace H : (some t224) = some r := H
  have A2 := Aside0.mk A20
  clear A20
  obtain rfl := Option.some.inj H
  go_enter Try.func17, Try.ntmps17
  go_wp2_with (first | ((with_reducible refine gate_callee (f := 38) rfl ?_); refine goesL_ (some 4) rfl rfl Try.func38 (by kernel_rfl) rfl #[.slice A0 l0.length c0, .func (.func 42) #[] #[]] rfl (by (try simp only [List.map_toArray, List.map_cons, List.map_nil]); first | done | rfl | (simp only [List.length_drop, List.length_take]; rfl)) ?_; (with_reducible refine (impl_isTree.calls k _ _ l0  t224 _ ?side1 ?side2 A2.out).mono ?_); (case side1 => repeat (first | exact HR0.out | (with_reducible refine Kd.C_alloc ?_ _) | (with_reducible refine Kd.C_drewN ?_ _) | (with_reducible refine Kd.C_drew ?_))); (case side2 => exact HC0.out); rintro e w3 ⟨rfl, hb⟩; refine ⟨_, rfl, ?_⟩; have n0_ := Aside0.mk (below_step (by repeat (first | (with_reducible first | exact HB.out | apply below_alloc | apply pw_below_drewN | apply below_drew1) | exact HB.out)) hb); clear HB; have HB := n0_; clear n0_; (try clear hb); (try clear hb2); (try clear hk); (try clear hi)))
  go_ret
  exact ⟨by first | rfl | (simp [errW_none, errW_some] <;> rfl) | (simp [*, errW_none, errW_some] <;> rfl), by repeat (first | (with_reducible first | exact HB.out | apply below_alloc | apply pw_below_drewN | apply below_drew1) | exact HB.out)⟩

-- NOT PRINTED: function 59 (impl_reader_one)

/-! ### impl_fitting: function 60 -/
def impl_fitting.f (l0 : List (S45)) : Option ((List (S45)) × Bool) := if (l0.length : Int) > 31 then (some (([] : List (S45)), false)) else (some (l0, true))
set_option maxHeartbeats 8000000 in
set_option maxRecDepth 100000 in
theorem impl_fitting.calls (P0_ : Nat → Prop) (u9000_ : Value) (l0 : List (S45)) (r1 : List (S45)) (r2 : Bool) (w0 w : World) (hB : Below w0.heap.size w0 w) (ho0 : Kd.R k45 45 w w0.heap.size P0_ u9000_ l0) (h : impl_fitting.f l0 = some (r1, r2)) :
    Calls Try.prog 60 #[u9000_] w fun e w' => ∃ v0_ : Value, e = .returned (.tuple #[v0_, .bool r2]) ∧ Kd.R k45 45 w' w0.heap.size (fun k_ => (P0_ k_ ∨ w.heap.size ≤ k_)) v0_ r1 ∧ Below w0.heap.size w0 w' ∧ Kept w w' (fun k_ => P0_ k_) := by
  have HO0 := Aside0.mk (show Kd.R k45 45 w w0.heap.size (fun k_ => (P0_ k_ ∨ w.heap.size ≤ k_)) u9000_ l0 from Kd.R_mono ho0 (fun k_ hk => (.inl hk)))
  have HK := Aside0.mk (Kept.refl w (fun k_ => P0_ k_))
  have HW0 := Aside0.mk hB.size
  have HB := Aside0.mk hB
  clear hB
  have H : (if (l0.length : Int) > 31 then (some (([] : List (S45)), false)) else (some (l0, true))) = some (r1, r2) := h
  clear h
  by_cases c2 : (l0.length : Int) > 31
  · rw [if_pos c2] at H
    have c2b0 : decide (31 < (l0.length : Int)) = true := decide_eq_true c2
    have c2b1 : decide (31 < l0.length) = true := decide_eq_true (by omega)
    clear c2
    simp only [Option.some.injEq, Prod.mk.injEq] at H
    obtain ⟨rfl, rfl⟩ := H
    obtain ⟨Ao3, co3, eo3⟩ := Kd.R_slice HO0.out
    subst eo3
    go_enter Try.func60, Try.ntmps60
    go_wp2
    go_ret2
    exact ⟨_, by first | rfl | (simp [errW_none, errW_some] <;> rfl) | (simp [*, errW_none, errW_some] <;> rfl), by first | exact Kd.R_nil _ _ _ _ _ | exact Kd.N_nil _ _ _ _ _ | exact Kd.V_nil _ _ _ _ _ | exact Kd.Q_nil _ _ _ _ _ | exact Kd.S_nil _ _ _ _ _, by repeat (first | (with_reducible first | exact HB.out | apply below_alloc | apply pw_below_drewN | apply below_drew1) | exact HB.out), by repeat (first | (with_reducible first | exact HK.out | apply Kept.alloc | apply Kept.drewN | apply Kept.drew) | exact HK.out)⟩
  · rw [if_neg c2] at H
    have c2b0 : decide (31 < (l0.length : Int)) = false := decide_eq_false c2
    have c2b1 : decide (31 < l0.length) = false := decide_eq_false (by omega)
    clear c2
    simp only [Option.some.injEq, Prod.mk.injEq] at H
    obtain ⟨rfl, rfl⟩ := H
    obtain ⟨Ao4, co4, eo4⟩ := Kd.R_slice HO0.out
    subst eo4
    go_enter Try.func60, Try.ntmps60
    go_wp2
    go_ret2
    exact ⟨_, by first | rfl | (simp [errW_none, errW_some] <;> rfl) | (simp [*, errW_none, errW_some] <;> rfl), by (with_reducible repeat (first | apply Kd.R_alloc | apply Kd.R_drewN | apply Kd.R_drew)); exact HO0.out, by repeat (first | (with_reducible first | exact HB.out | apply below_alloc | apply pw_below_drewN | apply below_drew1) | exact HB.out), by repeat (first | (with_reducible first | exact HK.out | apply Kept.alloc | apply Kept.drewN | apply Kept.drew) | exact HK.out)⟩

/-! ### impl_LtlNot: function 27 -/
def impl_LtlNot.f (k : Nat) (l0 : List S45) : Option (List S45 × Bool) := (impl_LtlOk.f k l0).bind fun t => (if t = true then (if l0.length < 1000000 then (if l0.length + 1 ≤ 31 then (some (l0 ++ [⟨4, (l0.length : Int) - 1, 0⟩], true)) else (some ([], false))) else (none)) else (some ([], false)))
theorem impl_LtlNot.mono : ∀ a0 k, LeO (impl_LtlNot.f k a0) (impl_LtlNot.f (k + 1) a0) := by
  intro a0 k
  unfold impl_LtlNot.f
  repeat' first
    | exact impl_LtlOk.mono _ _
    | exact LeO.refl _
    | exact LeO.none _
    | refine LeO.ite ?_ ?_
    | refine LeO.bind ?_ (fun _ => ?_)
/-- A reader's block, its list an own row. -/
abbrev impl_LtlNot.cells (v : Value) : Array Value := #[.string ByteArray.empty, .int .i64 0, .int .i64 0, v, .nilFunc]
set_option maxHeartbeats 8000000 in
set_option maxRecDepth 100000 in
theorem impl_LtlNot.one (base g : Nat) (kd : Int) (v : Value) (xs : List S45) (w0 w : World) (hB : Below base w0 w) (hbase : base ≤ w.heap.size) (hgb : base ≤ g) (hBK : w.heap[g]? = some (.cells (impl_LtlNot.cells v) 59 (0, 0)))
    (ho : Kd.R k45 45 w base (fun k => k ≠ g) v xs) (hlen : xs.length < 1000000) :
    Calls Try.prog 59 #[.pointer (some ⟨g, 0, none⟩), .int .i64 kd] w fun e w' => e = .returned (.tuple #[]) ∧ ∃ v', Kd.R k45 45 w' base (fun k => k ≠ g) v' (xs ++ [⟨kd, (xs.length : Int) - 1, 0⟩]) ∧
      w'.heap[g]? = some (.cells (impl_LtlNot.cells v') 59 (0, 0)) ∧ Below base w0 w' := by
  obtain ⟨A, c, rfl⟩ := Kd.R_slice ho
  have hg : g < w.heap.size := (Array.getElem?_eq_some_iff.1 hBK).1
  have hw1 : IntKind.i64.wrap ((xs.length : Int) - 1) = (xs.length : Int) - 1 := by rw [IntKind.wrap_i64]; omega
  have hc3w : w.cell? ⟨g, 3, none⟩ = some (.slice A xs.length c) := blk_cell hBK 3
  have hc3 : w.drew.cell? ⟨g, 3, none⟩ = some (.slice A xs.length c) := blk_cell (blk_drew hBK) 3
  have hf3 : w.drew.frozen? ⟨g, 3, none⟩ = false := blk_frozen (blk_drew hBK) 3
  have HO := Aside0.mk (Kd.R_drew ho)
  have HB := Aside0.mk (below_drew1 hB)
  have HBK := Aside0.mk (blk_drew hBK)
  have HBASE := Aside0.mk hbase
  clear ho hB hBK hbase
  go_enter Try.func59, Try.ntmps59
  go_region_law (refine Kd.R_append_step k45 base (by simp [Region.wanted]) (.tmp 8) (.tmp 17) 25 45 (.agg #[(.int .i64 0), (.int .i64 0), (.int .i64 0)]) 24 rfl Try.underlying25 info45 rfl (by decide) (by omega) (.slice A xs.length c) xs (⟨kd, (xs.length : Int) - 1, 0⟩ : S45) [.int .i64 kd, .int .i64 ((xs.length : Int) - 1), .int .i64 0] (fun k => k ≠ g) (fun _ => False) (by simp [Act.eval, Act.put]) (by simp [Act.eval, Act.put]) (k45_mkM _ _ _ (⟨kd, (xs.length : Int) - 1, 0⟩ : S45)) (fun _ hk => hk.elim) (fun k hk => by have := hk; simp at this; omega) HO.out HB.out HBASE.out (by omega) ?_; intro v1 w1 ho1 hb1 hg1 _; obtain ⟨A1, c1, e1⟩ := Kd.R_slice ho1; rw [List.length_append, List.length_singleton] at e1; subst e1; have hbk1 := blk_grown (g := g) HBK.out hg1 (Kd.R_ne HO.out HBK.out (by decide)); have hc4 : w1.cell? ⟨g, 3, none⟩ = some (.slice A xs.length c) := blk_cell hbk1 3; have hf4 := blk_frozen hbk1 3; have HO1 := Aside0.mk ho1; have HB1 := Aside0.mk hb1; have HBK1 := Aside0.mk hbk1; clear ho1 hb1 hg1 hbk1)
  all_goals go_end0
  all_goals exact ⟨rfl, .slice A1 (xs.length + 1) c1, Kd.R_far (p := ⟨g, 3, none⟩) HO1.out (fun k hk => hk) _, blk_put HBK1.out 3 _ rfl, HB1.out.setCell (p := ⟨g, 3, none⟩) hgb _⟩
set_option maxHeartbeats 8000000 in
set_option maxRecDepth 100000 in
theorem impl_LtlNot.calls (k : Nat) (A0 : Option Addr) (c0 : Nat) (l0 : List S45) (r0 : List S45) (r1 : Bool) (w : World) (hr0 : Kd.C k45 w A0 l0.length l0) (hc0 : l0.length ≤ c0) (h : impl_LtlNot.f k l0 = some (r0, r1)) :
    Calls Try.prog 27 #[.slice A0 l0.length c0] w fun e w' => ∃ v0_ : Value, e = .returned (.tuple #[v0_, .bool r1]) ∧ Kd.R k45 45 w' w.heap.size (fun _ => True) v0_ r0 ∧ Below w.heap.size w w' := by
  have HR0 := Aside0.mk hr0
  have HC0 := Aside0.mk hc0
  clear hr0 hc0
  have HB := Aside0.mk (Below.refl w.heap.size w)
  unfold impl_LtlNot.f at h
  obtain ⟨t, ht, h⟩ := Option.bind_eq_some_iff.1 h
  have HT := Aside0.mk ht
  clear ht
  cases t with
  | false =>
    rw [if_neg (by simp)] at h
    simp only [Option.some.injEq, Prod.mk.injEq] at h
    obtain ⟨rfl, rfl⟩ := h
    go_enter Try.func27, Try.ntmps27
    go_wp2_with ((with_reducible refine gate_callee (f := 17) rfl ?_); refine goesL_ (some 6) rfl rfl Try.func17 (by kernel_rfl) rfl #[.slice A0 l0.length c0] rfl (by (try simp only [List.map_toArray, List.map_cons, List.map_nil]); first | done | rfl | (go_simp; rfl)) ?_; (with_reducible refine (impl_LtlOk.calls k _ _ l0 false _ ?side1 ?side2 HT.out).mono ?_); (case side1 => exact HR0.out); (case side2 => exact HC0.out); rintro e w3 ⟨rfl, hb⟩; refine ⟨_, rfl, ?_⟩; replace HB := Aside0.mk hb; clear hb)
    go_ret2
    exact ⟨_, rfl, Kd.R_nil _ _ _ _ _, HB.out⟩
  | true =>
    rw [if_pos rfl] at h
    by_cases hl : l0.length < 1000000
    · rw [if_pos hl] at h
      have hfit : impl_fitting.f (l0 ++ [⟨4, (l0.length : Int) - 1, 0⟩]) = some (r0, r1) := by
        unfold impl_fitting.f
        rw [List.length_append, List.length_singleton]
        by_cases h31 : l0.length + 1 ≤ 31
        · rw [if_pos h31] at h
          rw [if_neg (by omega), h]
        · rw [if_neg h31] at h
          rw [if_pos (by omega), h]
      have HF := Aside0.mk hfit
      have HL := Aside0.mk hl
      clear hfit hl h
      go_enter Try.func27, Try.ntmps27
      go_wp2_with (first
        | ((with_reducible refine gate_callee (f := 17) rfl ?_); refine goesL_ (some 6) rfl rfl Try.func17 (by kernel_rfl) rfl #[.slice A0 l0.length c0] rfl (by (try simp only [List.map_toArray, List.map_cons, List.map_nil]); first | done | rfl | (go_simp; rfl)) ?_; (with_reducible refine (impl_LtlOk.calls k _ _ l0 true _ ?side1 ?side2 HT.out).mono ?_); (case side1 => exact HR0.out); (case side2 => exact HC0.out); rintro e w3 ⟨rfl, hb⟩; refine ⟨_, rfl, ?_⟩; replace HB := Aside0.mk hb; clear hb)
        | ((with_reducible refine gate_dst (N := 9) rfl ?_); refine box_event ?hg (N := 9) ?hd (cs := impl_LtlNot.cells (.slice none 0 0)) (t := 59) ?hr ?_; (case hd => rfl); (case hg => rfl); (case hr => first | (go_simp; done) | (go_simp; rfl)); intro gb hg w7 hbox hb; have hgl : gb < w7.heap.size := (Array.getElem?_eq_some_iff.1 hbox).1; have hgb : w.heap.size ≤ gb := (by rw [hg]; exact below_size HB.out); have hc7 : w7.cell? ⟨gb, 3, none⟩ = some (.slice none 0 0) := blk_cell hbox 3; have HBK := Aside0.mk hbox; replace HB := Aside0.mk (below_step HB.out hb); have HGL := Aside0.mk hgl; have HGB := Aside0.mk hgb; clear hg hbox hb hgl hgb)
        | (at_builtin; refine Kd.R_append_rows k45 (w0 := w) w.heap.size rfl (.tmp 14) (.tmp 15) 25 45 (.agg #[(.int .i64 0), (.int .i64 0), (.int .i64 0)]) 24 rfl Try.underlying25 info45 rfl (by decide) (by omega) (.slice none 0 0) [] l0 _ _ _ (fun k => k ≠ gb) (fun _ => False) rfl rfl ?aO ?aR (fun _ _ h => h) (fun _ h => h.elim) ?aF ?aB ?aS ?aL ?_; (case aR => exact Kd.C_below HR0.out HB.out); (case aB => exact HB.out); (case aF => exact (fun k hk => by have := HGL.out; omega)); (case aO => exact Kd.R_nil _ _ _ _ _); (case aS => exact HB.out.size); (case aL => have := HL.out; simp; omega); intro v8 w8 ho8 hb8 hg8 _; rw [List.nil_append] at ho8; obtain ⟨A8, c8, e8⟩ := Kd.R_slice ho8; subst e8; have hbk8 := blk_grown (g := gb) HBK.out hg8 (by simp [Value.ownBlock]); have hc8 : w8.cell? ⟨gb, 3, none⟩ = some (.slice none 0 0) := blk_cell hbk8 3; have hf8 := blk_frozen hbk8 3; have HO8 := Aside0.mk ho8; have HB8 := Aside0.mk hb8; have HBK8 := Aside0.mk hbk8; clear ho8 hb8 hg8 hbk8)
        | (go_at_call 59; refine (impl_LtlNot.one w.heap.size gb 4 (.slice A8 l0.length c8) l0 w (w8.setCell ⟨gb, 3, none⟩ (.slice A8 l0.length c8)) (HB8.out.setCell (p := ⟨gb, 3, none⟩) HGB.out _) (by have := HB8.out.size; simpa using this) HGB.out (blk_put HBK8.out 3 _ rfl) (Kd.R_far (p := ⟨gb, 3, none⟩) HO8.out (fun k hk => hk) _) HL.out).mono ?_; rintro e w9 ⟨rfl, v9, ho9, hbk9, hb9⟩; obtain ⟨A9, c9, e9⟩ := Kd.R_slice ho9; rw [List.length_append, List.length_singleton] at e9; subst e9; have hc9 : w9.cell? ⟨gb, 3, none⟩ = some _ := blk_cell hbk9 3; have HO9 := Aside0.mk ho9; have HB9 := Aside0.mk hb9; clear ho9 hb9 hbk9)
        | (go_at_call 60; refine (impl_fitting.calls (fun k => k ≠ gb) _ _ r0 r1 w w9 HB9.out HO9.out HF.out).mono ?_; rintro e w10 ⟨v10, rfl, ho10, hb10, _⟩))
      go_ret2
      exact ⟨_, rfl, Kd.R_mono ho10 (fun _ _ => trivial), hb10⟩
    · rw [if_neg hl] at h
      cases h

/-! ### laws_FnExactLtlNot: function 8 -/
mutual
def laws_FnExactLtlNot.j0 : Nat → List (S49) → List (S45) → Bool → List (S45) → List (S45) → Bool → Bool → Option (Bool)
  | 0, _, _, _, _, _, _, _ => none
  | k + 1, x0, x4, x5, x6, x7, x8, x40 => if x40 = true then (some false) else ((laws_toNodeS.f k x0).bind fun t241 => ((laws_eqNodeS.f k x6 t241).bind fun t244 => (if t244 = true then ((laws_markNodeS.f k x6 1).bind fun bt245 => (if bt245.1 < 0 then (laws_FnExactLtlNot.j1 k x0 x4 x5 x7 true) else ((laws_eqNodeS.f k x7 x4).bind fun t247 => (if t247 = true then (laws_FnExactLtlNot.j1 k x0 x4 x5 x7 (x8 != x5)) else (laws_FnExactLtlNot.j1 k x0 x4 x5 x7 true))))) else (some false))))
def laws_FnExactLtlNot.j1 : Nat → List (S49) → List (S45) → Bool → List (S45) → Bool → Option (Bool)
  | 0, _, _, _, _, _ => none
  | k + 1, x0, x4, x5, x7, x61 => if x61 = true then (some false) else ((laws_markNodeS.f k x7 1).bind fun bt248 => ((laws_heldNodeS.f k bt248.2 1).bind fun t250 => (if t250 < 0 then (some false) else (if t250 = bt248.1 then ((laws_toNodeS.f k x0).bind fun t251 => ((impl_LtlNot.f k t251).bind fun bt254 => ((laws_eqNodeS.f k bt254.1 x4).bind fun t258 => (if t258 = true then (laws_FnExactLtlNot.j2 k bt248.2 bt248.1 (bt254.2 != x5)) else (laws_FnExactLtlNot.j2 k bt248.2 bt248.1 true))))) else (some false)))))
def laws_FnExactLtlNot.j2 : Nat → List (S45) → Int → Bool → Option (Bool)
  | 0, _, _, _ => none
  | k + 1, x7, x10, x87 => if x87 = true then (some false) else ((laws_heldNodeS.f k x7 1).bind fun t259 => (if t259 < 0 then (some false) else (if t259 = x10 then (some true) else (some false))))
end
def laws_FnExactLtlNot.f (k : Nat) (l0 : List (S49)) : Option (Bool) := (laws_szNodeS.f l0 1048576).bind fun t225 => (if t225 < 0 then (some true) else ((laws_toNodeS.f k l0).bind fun t226 => ((spec_LtlNot.f k t226).bind fun bt229 => ((laws_toNodeS.f k l0).bind fun t233 => ((impl_LtlNot.f k t233).bind fun bt236 => ((laws_eqNodeS.f k bt236.1 bt229.1).bind fun t240 => (if t240 = true then (laws_FnExactLtlNot.j0 k l0 bt229.1 bt229.2 t233 bt236.1 bt236.2 (bt236.2 != bt229.2)) else (laws_FnExactLtlNot.j0 k l0 bt229.1 bt229.2 t233 bt236.1 bt236.2 true))))))))
theorem laws_FnExactLtlNot.mono_l : ∀ k, (∀ y0 y1 y2 y3 y4 y5 y6, LeO (laws_FnExactLtlNot.j0 k y0 y1 y2 y3 y4 y5 y6) (laws_FnExactLtlNot.j0 (k + 1) y0 y1 y2 y3 y4 y5 y6)) ∧ (∀ y0 y1 y2 y3 y4, LeO (laws_FnExactLtlNot.j1 k y0 y1 y2 y3 y4) (laws_FnExactLtlNot.j1 (k + 1) y0 y1 y2 y3 y4)) ∧ (∀ y0 y1 y2, LeO (laws_FnExactLtlNot.j2 k y0 y1 y2) (laws_FnExactLtlNot.j2 (k + 1) y0 y1 y2))
  | 0 => ⟨fun _ _ _ _ _ _ _ r h => by simp [laws_FnExactLtlNot.j0] at h, fun _ _ _ _ _ r h => by simp [laws_FnExactLtlNot.j1] at h, fun _ _ _ r h => by simp [laws_FnExactLtlNot.j2] at h⟩
  | k + 1 => by
    obtain ⟨ih0, ih1, ih2⟩ := laws_FnExactLtlNot.mono_l k
    refine ⟨?_, ?_, ?_⟩
    · intro y0 y1 y2 y3 y4 y5 y6
      unfold laws_FnExactLtlNot.j0
      repeat' first
      | (with_reducible exact ih0 _ _ _ _ _ _ _)
      | (with_reducible exact ih1 _ _ _ _ _)
      | (with_reducible exact ih2 _ _ _)
      | (with_reducible exact impl_LtlNot.mono _ _)
      | (with_reducible exact laws_eqNodeS.mono _ _ _)
      | (with_reducible exact laws_heldNodeS.mono _ _ _)
      | (with_reducible exact laws_markNodeS.mono _ _ _)
      | (with_reducible exact laws_toNodeS.mono _ _)
      | (with_reducible exact spec_LtlNot.mono _ _)
      | (with_reducible exact LeO.refl _)
      | (with_reducible exact LeO.none _)
      | (with_reducible refine LeO.ite ?_ ?_)
      | (with_reducible refine LeO.bind ?_ (fun _ => ?_))
      | exact ih0 _ _ _ _ _ _ _
      | exact ih1 _ _ _ _ _
      | exact ih2 _ _ _
      | exact impl_LtlNot.mono _ _
      | exact laws_eqNodeS.mono _ _ _
      | exact laws_heldNodeS.mono _ _ _
      | exact laws_markNodeS.mono _ _ _
      | exact laws_toNodeS.mono _ _
      | exact spec_LtlNot.mono _ _
      | exact LeO.none _
      | refine LeO.ite ?_ ?_
      | refine LeO.bind ?_ (fun _ => ?_)
    · intro y0 y1 y2 y3 y4
      unfold laws_FnExactLtlNot.j1
      repeat' first
      | (with_reducible exact ih0 _ _ _ _ _ _ _)
      | (with_reducible exact ih1 _ _ _ _ _)
      | (with_reducible exact ih2 _ _ _)
      | (with_reducible exact impl_LtlNot.mono _ _)
      | (with_reducible exact laws_eqNodeS.mono _ _ _)
      | (with_reducible exact laws_heldNodeS.mono _ _ _)
      | (with_reducible exact laws_markNodeS.mono _ _ _)
      | (with_reducible exact laws_toNodeS.mono _ _)
      | (with_reducible exact spec_LtlNot.mono _ _)
      | (with_reducible exact LeO.refl _)
      | (with_reducible exact LeO.none _)
      | (with_reducible refine LeO.ite ?_ ?_)
      | (with_reducible refine LeO.bind ?_ (fun _ => ?_))
      | exact ih0 _ _ _ _ _ _ _
      | exact ih1 _ _ _ _ _
      | exact ih2 _ _ _
      | exact impl_LtlNot.mono _ _
      | exact laws_eqNodeS.mono _ _ _
      | exact laws_heldNodeS.mono _ _ _
      | exact laws_markNodeS.mono _ _ _
      | exact laws_toNodeS.mono _ _
      | exact spec_LtlNot.mono _ _
      | exact LeO.none _
      | refine LeO.ite ?_ ?_
      | refine LeO.bind ?_ (fun _ => ?_)
    · intro y0 y1 y2
      unfold laws_FnExactLtlNot.j2
      repeat' first
      | (with_reducible exact ih0 _ _ _ _ _ _ _)
      | (with_reducible exact ih1 _ _ _ _ _)
      | (with_reducible exact ih2 _ _ _)
      | (with_reducible exact impl_LtlNot.mono _ _)
      | (with_reducible exact laws_eqNodeS.mono _ _ _)
      | (with_reducible exact laws_heldNodeS.mono _ _ _)
      | (with_reducible exact laws_markNodeS.mono _ _ _)
      | (with_reducible exact laws_toNodeS.mono _ _)
      | (with_reducible exact spec_LtlNot.mono _ _)
      | (with_reducible exact LeO.refl _)
      | (with_reducible exact LeO.none _)
      | (with_reducible refine LeO.ite ?_ ?_)
      | (with_reducible refine LeO.bind ?_ (fun _ => ?_))
      | exact ih0 _ _ _ _ _ _ _
      | exact ih1 _ _ _ _ _
      | exact ih2 _ _ _
      | exact impl_LtlNot.mono _ _
      | exact laws_eqNodeS.mono _ _ _
      | exact laws_heldNodeS.mono _ _ _
      | exact laws_markNodeS.mono _ _ _
      | exact laws_toNodeS.mono _ _
      | exact spec_LtlNot.mono _ _
      | exact LeO.none _
      | refine LeO.ite ?_ ?_
      | refine LeO.bind ?_ (fun _ => ?_)
theorem laws_FnExactLtlNot.mono : ∀ a0 k, LeO (laws_FnExactLtlNot.f k a0) (laws_FnExactLtlNot.f (k + 1) a0) := by
  intro a0 k
  obtain ⟨ih0, ih1, ih2⟩ := laws_FnExactLtlNot.mono_l k
  unfold laws_FnExactLtlNot.f
  repeat' first
      | (with_reducible exact ih0 _ _ _ _ _ _ _)
      | (with_reducible exact ih1 _ _ _ _ _)
      | (with_reducible exact ih2 _ _ _)
      | (with_reducible exact impl_LtlNot.mono _ _)
      | (with_reducible exact laws_eqNodeS.mono _ _ _)
      | (with_reducible exact laws_heldNodeS.mono _ _ _)
      | (with_reducible exact laws_markNodeS.mono _ _ _)
      | (with_reducible exact laws_toNodeS.mono _ _)
      | (with_reducible exact spec_LtlNot.mono _ _)
      | (with_reducible exact LeO.refl _)
      | (with_reducible exact LeO.none _)
      | (with_reducible refine LeO.ite ?_ ?_)
      | (with_reducible refine LeO.bind ?_ (fun _ => ?_))
      | exact ih0 _ _ _ _ _ _ _
      | exact ih1 _ _ _ _ _
      | exact ih2 _ _ _
      | exact impl_LtlNot.mono _ _
      | exact laws_eqNodeS.mono _ _ _
      | exact laws_heldNodeS.mono _ _ _
      | exact laws_markNodeS.mono _ _ _
      | exact laws_toNodeS.mono _ _
      | exact spec_LtlNot.mono _ _
      | exact LeO.none _
      | refine LeO.ite ?_ ?_
      | refine LeO.bind ?_ (fun _ => ?_)
set_option maxHeartbeats 8000000 in
set_option maxRecDepth 100000 in
theorem laws_FnExactLtlNot.calls (k : Nat) (A0 : Option Addr) (c0 : Nat) (l0 : List (S49)) (r : Bool) (w : World) (hr0 : Kd.C k49 w A0 l0.length l0) (hc0 : l0.length ≤ c0) (h : laws_FnExactLtlNot.f k l0 = some r) :
    Calls Try.prog 8 #[.slice A0 l0.length c0] w fun e w' => e = .returned (.bool r) ∧ Below w.heap.size w w' := by
  have HR0 := Aside0.mk hr0
  have HC0 := Aside0.mk hc0
  clear hr0 hc0
  have HB := Aside0.mk (Below.refl w.heap.size w)
  have H : ((laws_szNodeS.f l0 1048576).bind fun t225 => (if t225 < 0 then (some true) else ((laws_toNodeS.f k l0).bind fun t226 => ((spec_LtlNot.f k t226).bind fun bt229 => ((laws_toNodeS.f k l0).bind fun t233 => ((impl_LtlNot.f k t233).bind fun bt236 => ((laws_eqNodeS.f k bt236.1 bt229.1).bind fun t240 => (if t240 = true then (laws_FnExactLtlNot.j0 k l0 bt229.1 bt229.2 t233 bt236.1 bt236.2 (bt236.2 != bt229.2)) else (laws_FnExactLtlNot.j0 k l0 bt229.1 bt229.2 t233 bt236.1 bt236.2 true))))))))) = some r := h
  clear h
  replace H := Option.bind_eq_some_iff.mp H
  obtain ⟨t225, A20, H⟩ := H
  replace H : (if t225 < 0 then (some true) else ((laws_toNodeS.f k l0).bind fun t226 => ((spec_LtlNot.f k t226).bind fun bt229 => ((laws_toNodeS.f k l0).bind fun t233 => ((impl_LtlNot.f k t233).bind fun bt236 => ((laws_eqNodeS.f k bt236.1 bt229.1).bind fun t240 => (if t240 = true then (laws_FnExactLtlNot.j0 k l0 bt229.1 bt229.2 t233 bt236.1 bt236.2 (bt236.2 != bt229.2)) else (laws_FnExactLtlNot.j0 k l0 bt229.1 bt229.2 t233 bt236.1 bt236.2 true)))))))) = some r := H
  have A2 := Aside0.mk A20
  clear A20
  by_cases c3 : t225 < 0
  · rw [if_pos c3] at H
    have c3b0 : decide (t225 < 0) = true := decide_eq_true c3
    clear c3
    obtain rfl := Option.some.inj H
    go_enter Try.func8, Try.ntmps8
    go_wp2_with (first | ((with_reducible refine gate_callee (f := 11) rfl ?_); refine goesL_ (some 16) rfl rfl Try.func11 (by kernel_rfl) rfl #[.slice A0 l0.length c0, .int .i64 1048576] rfl (by (try simp only [List.map_toArray, List.map_cons, List.map_nil]); first | done | rfl | (simp only [List.length_drop, List.length_take]; rfl)) ?_; (with_reducible refine (laws_szNodeS.calls _ _ l0 1048576 t225 _ ?side1 ?side2 A2.out).mono ?_); (case side1 => repeat (first | exact HR0.out | (with_reducible refine Kd.C_alloc ?_ _) | (with_reducible refine Kd.C_drewN ?_ _) | (with_reducible refine Kd.C_drew ?_))); (case side2 => exact HC0.out); rintro e w' ⟨rfl, ⟨nd, rfl⟩⟩; refine ⟨_, rfl, ?_⟩))
    go_ret
    exact ⟨by first | rfl | (simp [errW_none, errW_some] <;> rfl) | (simp [*, errW_none, errW_some] <;> rfl), by repeat (first | (with_reducible first | exact HB.out | apply below_alloc | apply pw_below_drewN | apply below_drew1) | exact HB.out)⟩
  · rw [if_neg c3] at H
    have c3b0 : decide (t225 < 0) = false := decide_eq_false c3
    clear c3
    replace H := Option.bind_eq_some_iff.mp H
    obtain ⟨t226, A40, H⟩ := H
    replace H : ((spec_LtlNot.f k t226).bind fun bt229 => ((laws_toNodeS.f k l0).bind fun t233 => ((impl_LtlNot.f k t233).bind fun bt236 => ((laws_eqNodeS.f k bt236.1 bt229.1).bind fun t240 => (if t240 = true then (laws_FnExactLtlNot.j0 k l0 bt229.1 bt229.2 t233 bt236.1 bt236.2 (bt236.2 != bt229.2)) else (laws_FnExactLtlNot.j0 k l0 bt229.1 bt229.2 t233 bt236.1 bt236.2 true)))))) = some r := H
    have A4 := Aside0.mk A40
    clear A40
    replace H := Option.bind_eq_some_iff.mp H
    obtain ⟨⟨t229, t230⟩, A50, H⟩ := H
    replace H : ((laws_toNodeS.f k l0).bind fun t233 => ((impl_LtlNot.f k t233).bind fun bt236 => ((laws_eqNodeS.f k bt236.1 t229).bind fun t240 => (if t240 = true then (laws_FnExactLtlNot.j0 k l0 t229 t230 t233 bt236.1 bt236.2 (bt236.2 != t230)) else (laws_FnExactLtlNot.j0 k l0 t229 t230 t233 bt236.1 bt236.2 true))))) = some r := H
    have A5 := Aside0.mk A50
    clear A50
    replace H := Option.bind_eq_some_iff.mp H
    obtain ⟨t233, A60, H⟩ := H
    replace H : ((impl_LtlNot.f k t233).bind fun bt236 => ((laws_eqNodeS.f k bt236.1 t229).bind fun t240 => (if t240 = true then (laws_FnExactLtlNot.j0 k l0 t229 t230 t233 bt236.1 bt236.2 (bt236.2 != t230)) else (laws_FnExactLtlNot.j0 k l0 t229 t230 t233 bt236.1 bt236.2 true)))) = some r := H
    have A6 := Aside0.mk A60
    clear A60
    replace H := Option.bind_eq_some_iff.mp H
    obtain ⟨⟨t236, t237⟩, A70, H⟩ := H
    replace H : ((laws_eqNodeS.f k t236 t229).bind fun t240 => (if t240 = true then (laws_FnExactLtlNot.j0 k l0 t229 t230 t233 t236 t237 (t237 != t230)) else (laws_FnExactLtlNot.j0 k l0 t229 t230 t233 t236 t237 true))) = some r := H
    have A7 := Aside0.mk A70
    clear A70
    have HC8 := Aside0.mk H
    clear H
    go_enter Try.func8, Try.ntmps8
    go_upto_region 8 with (first | ((with_reducible refine gate_callee (f := 11) rfl ?_); refine goesL_ (some 16) rfl rfl Try.func11 (by kernel_rfl) rfl #[.slice A0 l0.length c0, .int .i64 1048576] rfl (by (try simp only [List.map_toArray, List.map_cons, List.map_nil]); first | done | rfl | (simp only [List.length_drop, List.length_take]; rfl)) ?_; (with_reducible refine (laws_szNodeS.calls _ _ l0 1048576 t225 _ ?side1 ?side2 A2.out).mono ?_); (case side1 => repeat (first | exact HR0.out | (with_reducible refine Kd.C_alloc ?_ _) | (with_reducible refine Kd.C_drewN ?_ _) | (with_reducible refine Kd.C_drew ?_))); (case side2 => exact HC0.out); rintro e w' ⟨rfl, ⟨nd, rfl⟩⟩; refine ⟨_, rfl, ?_⟩) | ((with_reducible refine gate_callee (f := 13) rfl ?_); refine goesL_ (some 21) rfl rfl Try.func13 (by kernel_rfl) rfl #[.slice A0 l0.length c0] rfl (by (try simp only [List.map_toArray, List.map_cons, List.map_nil]); first | done | rfl | (simp only [List.length_drop, List.length_take]; rfl)) ?_; (with_reducible refine (laws_toNodeS.calls k _ _ l0 t226 _ ?side1 ?side2 A4.out).mono ?_); (case side1 => repeat (first | exact HR0.out | (with_reducible refine Kd.C_alloc ?_ _) | (with_reducible refine Kd.C_drewN ?_ _) | (with_reducible refine Kd.C_drew ?_))); (case side2 => exact HC0.out); rintro e w9 ⟨v227, rfl, ho0, hb⟩; refine ⟨_, rfl, ?_⟩; have n0_ := Aside0.mk (Kd.R_lower ho0 (below_size (by repeat (first | (with_reducible first | exact HB.out | apply below_alloc | apply pw_below_drewN | apply below_drew1) | exact HB.out)))); have n1_ := Aside0.mk (below_step (by repeat (first | (with_reducible first | exact HB.out | apply below_alloc | apply pw_below_drewN | apply below_drew1) | exact HB.out)) hb); clear HB; have HO228 := n0_; have HB := n1_; clear n0_ n1_; (try clear hb); (try clear hb2); (try clear hk); (try clear hi); (try clear ho0); obtain ⟨Ao10, co10, eo10⟩ := Kd.R_slice HO228.out; subst eo10) | ((with_reducible refine gate_callee (f := 26) rfl ?_); refine goesL_ (some 22) rfl rfl Try.func26 (by kernel_rfl) rfl #[.slice Ao10 t226.length co10] rfl (by (try simp only [List.map_toArray, List.map_cons, List.map_nil]); first | done | rfl | (simp only [List.length_drop, List.length_take]; rfl)) ?_; (with_reducible refine (spec_LtlNot.calls k _ _ t226 t229 t230 _ ?side1 ?side2 A5.out).mono ?_); (case side1 => repeat (first | exact (Kd.R_reads' HO228.out).2.2 | (with_reducible refine Kd.C_alloc ?_ _) | (with_reducible refine Kd.C_drewN ?_ _) | (with_reducible refine Kd.C_drew ?_))); (case side2 => exact (Kd.R_reads' HO228.out).2.1); rintro e w11 ⟨v231, rfl, ho0, hb⟩; refine ⟨_, rfl, ?_⟩; have n0_ := Aside0.mk (Kd.R_elder' (by (with_reducible repeat (first | apply Kd.R_alloc | apply Kd.R_drewN | apply Kd.R_drew)); exact HO228.out) (Kd.R_base ho0) hb); have n1_ := Aside0.mk (Kd.R_lower (Kd.R_new' ho0 (Kd.R_lt (by (with_reducible repeat (first | apply Kd.R_alloc | apply Kd.R_drewN | apply Kd.R_drew)); exact HO228.out))) (below_size (by repeat (first | (with_reducible first | exact HB.out | apply below_alloc | apply pw_below_drewN | apply below_drew1) | exact HB.out)))); have n2_ := Aside0.mk (below_step (by repeat (first | (with_reducible first | exact HB.out | apply below_alloc | apply pw_below_drewN | apply below_drew1) | exact HB.out)) hb); clear HO228; clear HB; have HO228 := n0_; have HO232 := n1_; have HB := n2_; clear n0_ n1_ n2_; (try clear hb); (try clear hb2); (try clear hk); (try clear hi); (try clear ho0)) | ((with_reducible refine gate_callee (f := 13) rfl ?_); refine goesL_ (some 26) rfl rfl Try.func13 (by kernel_rfl) rfl #[.slice A0 l0.length c0] rfl (by (try simp only [List.map_toArray, List.map_cons, List.map_nil]); first | done | rfl | (simp only [List.length_drop, List.length_take]; rfl)) ?_; (with_reducible refine (laws_toNodeS.calls k _ _ l0 t233 _ ?side1 ?side2 A6.out).mono ?_); (case side1 => repeat (first | exact (Kd.C_below HR0.out HB.out) | (with_reducible refine Kd.C_alloc ?_ _) | (with_reducible refine Kd.C_drewN ?_ _) | (with_reducible refine Kd.C_drew ?_))); (case side2 => exact HC0.out); rintro e w12 ⟨v234, rfl, ho0, hb⟩; refine ⟨_, rfl, ?_⟩; have n0_ := Aside0.mk (Kd.R_elder' (by (with_reducible repeat (first | apply Kd.R_alloc | apply Kd.R_drewN | apply Kd.R_drew)); exact HO228.out) (Kd.R_base ho0) hb); have n1_ := Aside0.mk (Kd.R_elder' (by (with_reducible repeat (first | apply Kd.R_alloc | apply Kd.R_drewN | apply Kd.R_drew)); exact HO232.out) (Kd.R_base ho0) hb); have n2_ := Aside0.mk (Kd.R_lower (Kd.R_new' (Kd.R_new' ho0 (Kd.R_lt (by (with_reducible repeat (first | apply Kd.R_alloc | apply Kd.R_drewN | apply Kd.R_drew)); exact HO228.out))) (Kd.R_lt (by (with_reducible repeat (first | apply Kd.R_alloc | apply Kd.R_drewN | apply Kd.R_drew)); exact HO232.out))) (below_size (by repeat (first | (with_reducible first | exact HB.out | apply below_alloc | apply pw_below_drewN | apply below_drew1) | exact HB.out)))); have n3_ := Aside0.mk (below_step (by repeat (first | (with_reducible first | exact HB.out | apply below_alloc | apply pw_below_drewN | apply below_drew1) | exact HB.out)) hb); clear HO228; clear HO232; clear HB; have HO228 := n0_; have HO232 := n1_; have HO235 := n2_; have HB := n3_; clear n0_ n1_ n2_ n3_; (try clear hb); (try clear hb2); (try clear hk); (try clear hi); (try clear ho0); obtain ⟨Ao13, co13, eo13⟩ := Kd.R_slice HO235.out; subst eo13) | ((with_reducible refine gate_callee (f := 27) rfl ?_); refine goesL_ (some 29) rfl rfl Try.func27 (by kernel_rfl) rfl #[.slice Ao13 t233.length co13] rfl (by (try simp only [List.map_toArray, List.map_cons, List.map_nil]); first | done | rfl | (simp only [List.length_drop, List.length_take]; rfl)) ?_; (with_reducible refine (impl_LtlNot.calls k _ _ t233 t236 t237 _ ?side1 ?side2 A7.out).mono ?_); (case side1 => repeat (first | exact (Kd.R_reads' HO235.out).2.2 | (with_reducible refine Kd.C_alloc ?_ _) | (with_reducible refine Kd.C_drewN ?_ _) | (with_reducible refine Kd.C_drew ?_))); (case side2 => exact (Kd.R_reads' HO235.out).2.1); rintro e w14 ⟨v238, rfl, ho0, hb⟩; refine ⟨_, rfl, ?_⟩; have n0_ := Aside0.mk (Kd.R_elder' (by (with_reducible repeat (first | apply Kd.R_alloc | apply Kd.R_drewN | apply Kd.R_drew)); exact HO228.out) (Kd.R_base ho0) hb); have n1_ := Aside0.mk (Kd.R_elder' (by (with_reducible repeat (first | apply Kd.R_alloc | apply Kd.R_drewN | apply Kd.R_drew)); exact HO232.out) (Kd.R_base ho0) hb); have n2_ := Aside0.mk (Kd.R_elder' (by (with_reducible repeat (first | apply Kd.R_alloc | apply Kd.R_drewN | apply Kd.R_drew)); exact HO235.out) (Kd.R_base ho0) hb); have n3_ := Aside0.mk (Kd.R_lower (Kd.R_new' (Kd.R_new' (Kd.R_new' ho0 (Kd.R_lt (by (with_reducible repeat (first | apply Kd.R_alloc | apply Kd.R_drewN | apply Kd.R_drew)); exact HO228.out))) (Kd.R_lt (by (with_reducible repeat (first | apply Kd.R_alloc | apply Kd.R_drewN | apply Kd.R_drew)); exact HO232.out))) (Kd.R_lt (by (with_reducible repeat (first | apply Kd.R_alloc | apply Kd.R_drewN | apply Kd.R_drew)); exact HO235.out))) (below_size (by repeat (first | (with_reducible first | exact HB.out | apply below_alloc | apply pw_below_drewN | apply below_drew1) | exact HB.out)))); have n4_ := Aside0.mk (below_step (by repeat (first | (with_reducible first | exact HB.out | apply below_alloc | apply pw_below_drewN | apply below_drew1) | exact HB.out)) hb); clear HO228; clear HO232; clear HO235; clear HB; have HO228 := n0_; have HO232 := n1_; have HO235 := n2_; have HO239 := n3_; have HB := n4_; clear n0_ n1_ n2_ n3_ n4_; (try clear hb); (try clear hb2); (try clear hk); (try clear hi); (try clear ho0)))
    (try simp only [Act.put, List.setIfInBounds_toArray, List.set_cons_zero, List.set_cons_succ])
    go_cut [40] (fun v40 wc => ∃ (kq : Nat) (x40_7 : Bool), v40 = .bool x40_7 ∧ Aside0 (laws_FnExactLtlNot.j0 kq l0 t229 t230 t233 t236 t237 x40_7 = some r) ∧ Aside0 (kq ≤ k) ∧ Aside0 (Kd.R k45 45 wc w.heap.size (fun k_ => some k_ ≠ ((.slice Ao13 t233.length co13) : Value).ownBlock ∧ some k_ ≠ (v238 : Value).ownBlock) v231 t229) ∧ Aside0 (Kd.R k45 45 wc w.heap.size (fun k_ => some k_ ≠ (v231 : Value).ownBlock ∧ some k_ ≠ (v238 : Value).ownBlock) (.slice Ao13 t233.length co13) t233) ∧ Aside0 (Kd.R k45 45 wc w.heap.size (fun k_ => some k_ ≠ (v231 : Value).ownBlock ∧ some k_ ≠ ((.slice Ao13 t233.length co13) : Value).ownBlock) v238 t236) ∧ Aside0 (Below w.heap.size w wc))
    case first =>
      have H := HC8.out
      clear HC8
      replace H := Option.bind_eq_some_iff.mp H
      obtain ⟨t240, A150, H⟩ := H
      replace H : (if t240 = true then (laws_FnExactLtlNot.j0 k l0 t229 t230 t233 t236 t237 (t237 != t230)) else (laws_FnExactLtlNot.j0 k l0 t229 t230 t233 t236 t237 true)) = some r := H
      have A15 := Aside0.mk A150
      clear A150
      by_cases c16 : t240 = true
      · subst c16
        have H1 : (laws_FnExactLtlNot.j0 k l0 t229 t230 t233 t236 t237 (t237 != t230)) = some r := by rw [if_pos rfl] at H; exact H
        clear H
        have H := H1
        clear H1
        have H' := Aside0.mk H
        clear H
        obtain ⟨Ao17, co17, eo17⟩ := Kd.R_slice HO239.out
        subst eo17
        obtain ⟨Ao18, co18, eo18⟩ := Kd.R_slice HO232.out
        subst eo18
        go_wp2_with (first | ((with_reducible refine gate_callee (f := 15) rfl ?_); refine goesL_ (some 34) rfl rfl Try.func15 (by kernel_rfl) rfl #[.slice Ao17 t236.length co17, .slice Ao18 t229.length co18] rfl (by (try simp only [List.map_toArray, List.map_cons, List.map_nil]); first | done | rfl | (simp only [List.length_drop, List.length_take]; rfl)) ?_; (with_reducible refine (laws_eqNodeS.calls k _ _ t236 _ _ t229 true _ ?side1 ?side2 ?side3 ?side4 A15.out).mono ?_); (case side1 => repeat (first | exact (Kd.R_reads' HO239.out).2.2 | (with_reducible refine Kd.C_alloc ?_ _) | (with_reducible refine Kd.C_drewN ?_ _) | (with_reducible refine Kd.C_drew ?_))); (case side2 => exact (Kd.R_reads' HO239.out).2.1); (case side3 => repeat (first | exact (Kd.R_reads' HO232.out).2.2 | (with_reducible refine Kd.C_alloc ?_ _) | (with_reducible refine Kd.C_drewN ?_ _) | (with_reducible refine Kd.C_drew ?_))); (case side4 => exact (Kd.R_reads' HO232.out).2.1); rintro e w19 ⟨rfl, hb⟩; refine ⟨_, rfl, ?_⟩; have n0_ := Aside0.mk (Kd.R_below (by (with_reducible repeat (first | apply Kd.R_alloc | apply Kd.R_drewN | apply Kd.R_drew)); exact HO228.out) hb); have n1_ := Aside0.mk (Kd.R_below (by (with_reducible repeat (first | apply Kd.R_alloc | apply Kd.R_drewN | apply Kd.R_drew)); exact HO232.out) hb); have n2_ := Aside0.mk (Kd.R_below (by (with_reducible repeat (first | apply Kd.R_alloc | apply Kd.R_drewN | apply Kd.R_drew)); exact HO235.out) hb); have n3_ := Aside0.mk (Kd.R_below (by (with_reducible repeat (first | apply Kd.R_alloc | apply Kd.R_drewN | apply Kd.R_drew)); exact HO239.out) hb); have n4_ := Aside0.mk (below_step (by repeat (first | (with_reducible first | exact HB.out | apply below_alloc | apply pw_below_drewN | apply below_drew1) | exact HB.out)) hb); clear HO228; clear HO232; clear HO235; clear HO239; clear HB; have HO228 := n0_; have HO232 := n1_; have HO235 := n2_; have HO239 := n3_; have HB := n4_; clear n0_ n1_ n2_ n3_ n4_; (try clear hb); (try clear hb2); (try clear hk); (try clear hi)))
        go_meet
        case rel => exact ⟨_, ((t237 != t230)), (by first | rfl | (simp; done) | (simp [*]; done) | (rw [Int.tmod_eq_emod_of_nonneg (Int.natCast_nonneg _)]; done)), H', ⟨by first | omega | exact Nat.le_refl _⟩, ⟨by (with_reducible repeat (first | apply Kd.R_alloc | apply Kd.R_drewN | apply Kd.R_drew)); exact Kd.R_mono HO232.out (fun _ hk => ⟨hk.1.2, hk.2⟩)⟩, ⟨by (with_reducible repeat (first | apply Kd.R_alloc | apply Kd.R_drewN | apply Kd.R_drew)); exact Kd.R_mono HO235.out (fun _ hk => ⟨hk.1.2, hk.2⟩)⟩, ⟨by (with_reducible repeat (first | apply Kd.R_alloc | apply Kd.R_drewN | apply Kd.R_drew)); exact Kd.R_mono HO239.out (fun _ hk => ⟨hk.1.2, hk.2⟩)⟩, ⟨by repeat (first | (with_reducible first | exact HB.out | apply below_alloc | apply pw_below_drewN | apply below_drew1) | exact HB.out)⟩⟩
      · replace c16 := Bool.eq_false_iff.mpr c16
        subst c16
        have H1 : (laws_FnExactLtlNot.j0 k l0 t229 t230 t233 t236 t237 true) = some r := by rw [if_neg (show ¬ (false = true) by decide)] at H; exact H
        clear H
        have H := H1
        clear H1
        have H' := Aside0.mk H
        clear H
        obtain ⟨Ao20, co20, eo20⟩ := Kd.R_slice HO239.out
        subst eo20
        obtain ⟨Ao21, co21, eo21⟩ := Kd.R_slice HO232.out
        subst eo21
        go_wp2_with (first | ((with_reducible refine gate_callee (f := 15) rfl ?_); refine goesL_ (some 34) rfl rfl Try.func15 (by kernel_rfl) rfl #[.slice Ao20 t236.length co20, .slice Ao21 t229.length co21] rfl (by (try simp only [List.map_toArray, List.map_cons, List.map_nil]); first | done | rfl | (simp only [List.length_drop, List.length_take]; rfl)) ?_; (with_reducible refine (laws_eqNodeS.calls k _ _ t236 _ _ t229 false _ ?side1 ?side2 ?side3 ?side4 A15.out).mono ?_); (case side1 => repeat (first | exact (Kd.R_reads' HO239.out).2.2 | (with_reducible refine Kd.C_alloc ?_ _) | (with_reducible refine Kd.C_drewN ?_ _) | (with_reducible refine Kd.C_drew ?_))); (case side2 => exact (Kd.R_reads' HO239.out).2.1); (case side3 => repeat (first | exact (Kd.R_reads' HO232.out).2.2 | (with_reducible refine Kd.C_alloc ?_ _) | (with_reducible refine Kd.C_drewN ?_ _) | (with_reducible refine Kd.C_drew ?_))); (case side4 => exact (Kd.R_reads' HO232.out).2.1); rintro e w22 ⟨rfl, hb⟩; refine ⟨_, rfl, ?_⟩; have n0_ := Aside0.mk (Kd.R_below (by (with_reducible repeat (first | apply Kd.R_alloc | apply Kd.R_drewN | apply Kd.R_drew)); exact HO228.out) hb); have n1_ := Aside0.mk (Kd.R_below (by (with_reducible repeat (first | apply Kd.R_alloc | apply Kd.R_drewN | apply Kd.R_drew)); exact HO232.out) hb); have n2_ := Aside0.mk (Kd.R_below (by (with_reducible repeat (first | apply Kd.R_alloc | apply Kd.R_drewN | apply Kd.R_drew)); exact HO235.out) hb); have n3_ := Aside0.mk (Kd.R_below (by (with_reducible repeat (first | apply Kd.R_alloc | apply Kd.R_drewN | apply Kd.R_drew)); exact HO239.out) hb); have n4_ := Aside0.mk (below_step (by repeat (first | (with_reducible first | exact HB.out | apply below_alloc | apply pw_below_drewN | apply below_drew1) | exact HB.out)) hb); clear HO228; clear HO232; clear HO235; clear HO239; clear HB; have HO228 := n0_; have HO232 := n1_; have HO235 := n2_; have HO239 := n3_; have HB := n4_; clear n0_ n1_ n2_ n3_ n4_; (try clear hb); (try clear hb2); (try clear hk); (try clear hi)))
        go_meet
        case rel => exact ⟨_, (true), (by first | rfl | (simp; done) | (simp [*]; done) | (rw [Int.tmod_eq_emod_of_nonneg (Int.natCast_nonneg _)]; done)), H', ⟨by first | omega | exact Nat.le_refl _⟩, ⟨by (with_reducible repeat (first | apply Kd.R_alloc | apply Kd.R_drewN | apply Kd.R_drew)); exact Kd.R_mono HO232.out (fun _ hk => ⟨hk.1.2, hk.2⟩)⟩, ⟨by (with_reducible repeat (first | apply Kd.R_alloc | apply Kd.R_drewN | apply Kd.R_drew)); exact Kd.R_mono HO235.out (fun _ hk => ⟨hk.1.2, hk.2⟩)⟩, ⟨by (with_reducible repeat (first | apply Kd.R_alloc | apply Kd.R_drewN | apply Kd.R_drew)); exact Kd.R_mono HO239.out (fun _ hk => ⟨hk.1.2, hk.2⟩)⟩, ⟨by repeat (first | (with_reducible first | exact HB.out | apply below_alloc | apply pw_below_drewN | apply below_drew1) | exact HB.out)⟩⟩
    case rest =>
      clear HC8
      try clear c1
      try clear c2
      try clear p2
      try clear c3
      try clear c3b0
      try clear c8
      try clear c11
      try clear c13
      try clear c15
      try clear c16
      obtain ⟨kq, x40_7, rfl, HA, HJ7, HO_4, HO_6, HO_7, HB⟩ := hcut
      cases kq with
      | zero => exact absurd HA.out (by simp [laws_FnExactLtlNot.j0])
      | succ kj7 =>
        have H := HA.out
        clear HA
        simp only [laws_FnExactLtlNot.j0] at H
        by_cases c23 : x40_7 = true
        · subst c23
          have H1 : (some false) = some r := by rw [if_pos rfl] at H; exact H
          clear H
          have H := H1
          clear H1
          obtain rfl := Option.some.inj H
          go_wp2
          go_ret
          exact ⟨by first | rfl | (simp [errW_none, errW_some] <;> rfl) | (simp [*, errW_none, errW_some] <;> rfl), by repeat (first | (with_reducible first | exact HB.out | apply below_alloc | apply pw_below_drewN | apply below_drew1) | exact HB.out)⟩
        · replace c23 := Bool.eq_false_iff.mpr c23
          subst c23
          have H1 : ((laws_toNodeS.f kj7 l0).bind fun t241 => ((laws_eqNodeS.f kj7 t233 t241).bind fun t244 => (if t244 = true then ((laws_markNodeS.f kj7 t233 1).bind fun bt245 => (if bt245.1 < 0 then (laws_FnExactLtlNot.j1 kj7 l0 t229 t230 t236 true) else ((laws_eqNodeS.f kj7 t236 t229).bind fun t247 => (if t247 = true then (laws_FnExactLtlNot.j1 kj7 l0 t229 t230 t236 (t237 != t230)) else (laws_FnExactLtlNot.j1 kj7 l0 t229 t230 t236 true))))) else (some false)))) = some r := by rw [if_neg (show ¬ (false = true) by decide)] at H; exact H
          clear H
          have H := H1
          clear H1
          replace H := Option.bind_eq_some_iff.mp H
          obtain ⟨t241, A240, H⟩ := H
          replace H : ((laws_eqNodeS.f kj7 t233 t241).bind fun t244 => (if t244 = true then ((laws_markNodeS.f kj7 t233 1).bind fun bt245 => (if bt245.1 < 0 then (laws_FnExactLtlNot.j1 kj7 l0 t229 t230 t236 true) else ((laws_eqNodeS.f kj7 t236 t229).bind fun t247 => (if t247 = true then (laws_FnExactLtlNot.j1 kj7 l0 t229 t230 t236 (t237 != t230)) else (laws_FnExactLtlNot.j1 kj7 l0 t229 t230 t236 true))))) else (some false))) = some r := H
          have A24 := Aside0.mk A240
          clear A240
          replace H := Option.bind_eq_some_iff.mp H
          obtain ⟨t244, A250, H⟩ := H
          replace H : (if t244 = true then ((laws_markNodeS.f kj7 t233 1).bind fun bt245 => (if bt245.1 < 0 then (laws_FnExactLtlNot.j1 kj7 l0 t229 t230 t236 true) else ((laws_eqNodeS.f kj7 t236 t229).bind fun t247 => (if t247 = true then (laws_FnExactLtlNot.j1 kj7 l0 t229 t230 t236 (t237 != t230)) else (laws_FnExactLtlNot.j1 kj7 l0 t229 t230 t236 true))))) else (some false)) = some r := H
          have A25 := Aside0.mk A250
          clear A250
          by_cases c26 : t244 = true
          · subst c26
            have H1 : ((laws_markNodeS.f kj7 t233 1).bind fun bt245 => (if bt245.1 < 0 then (laws_FnExactLtlNot.j1 kj7 l0 t229 t230 t236 true) else ((laws_eqNodeS.f kj7 t236 t229).bind fun t247 => (if t247 = true then (laws_FnExactLtlNot.j1 kj7 l0 t229 t230 t236 (t237 != t230)) else (laws_FnExactLtlNot.j1 kj7 l0 t229 t230 t236 true))))) = some r := by rw [if_pos rfl] at H; exact H
            clear H
            have H := H1
            clear H1
            replace H := Option.bind_eq_some_iff.mp H
            obtain ⟨⟨t245, t246⟩, A270, H⟩ := H
            replace H : (if t245 < 0 then (laws_FnExactLtlNot.j1 kj7 l0 t229 t230 t236 true) else ((laws_eqNodeS.f kj7 t236 t229).bind fun t247 => (if t247 = true then (laws_FnExactLtlNot.j1 kj7 l0 t229 t230 t236 (t237 != t230)) else (laws_FnExactLtlNot.j1 kj7 l0 t229 t230 t236 true)))) = some r := H
            have A27 := Aside0.mk A270
            clear A270
            have HC28 := Aside0.mk H
            clear H
            go_upto_region 14 with (first | ((with_reducible refine gate_callee (f := 13) rfl ?_); refine goesL_ (some 43) rfl rfl Try.func13 (by kernel_rfl) rfl #[.slice A0 l0.length c0] rfl (by (try simp only [List.map_toArray, List.map_cons, List.map_nil]); first | done | rfl | (simp only [List.length_drop, List.length_take]; rfl)) ?_; (with_reducible refine (laws_toNodeS.calls kj7 _ _ l0 t241 _ ?side1 ?side2 A24.out).mono ?_); (case side1 => repeat (first | exact (Kd.C_below HR0.out HB.out) | (with_reducible refine Kd.C_alloc ?_ _) | (with_reducible refine Kd.C_drewN ?_ _) | (with_reducible refine Kd.C_drew ?_))); (case side2 => exact HC0.out); rintro e w29 ⟨v242, rfl, ho0, hb⟩; refine ⟨_, rfl, ?_⟩; have n0_ := Aside0.mk (Kd.R_elder' (by (with_reducible repeat (first | apply Kd.R_alloc | apply Kd.R_drewN | apply Kd.R_drew)); exact HO_4.out) (Kd.R_base ho0) hb); have n1_ := Aside0.mk (Kd.R_elder' (by (with_reducible repeat (first | apply Kd.R_alloc | apply Kd.R_drewN | apply Kd.R_drew)); exact HO_6.out) (Kd.R_base ho0) hb); have n2_ := Aside0.mk (Kd.R_elder' (by (with_reducible repeat (first | apply Kd.R_alloc | apply Kd.R_drewN | apply Kd.R_drew)); exact HO_7.out) (Kd.R_base ho0) hb); have n3_ := Aside0.mk (Kd.R_lower (Kd.R_new' (Kd.R_new' (Kd.R_new' ho0 (Kd.R_lt (by (with_reducible repeat (first | apply Kd.R_alloc | apply Kd.R_drewN | apply Kd.R_drew)); exact HO_4.out))) (Kd.R_lt (by (with_reducible repeat (first | apply Kd.R_alloc | apply Kd.R_drewN | apply Kd.R_drew)); exact HO_6.out))) (Kd.R_lt (by (with_reducible repeat (first | apply Kd.R_alloc | apply Kd.R_drewN | apply Kd.R_drew)); exact HO_7.out))) (below_size (by repeat (first | (with_reducible first | exact HB.out | apply below_alloc | apply pw_below_drewN | apply below_drew1) | exact HB.out)))); have n4_ := Aside0.mk (below_step (by repeat (first | (with_reducible first | exact HB.out | apply below_alloc | apply pw_below_drewN | apply below_drew1) | exact HB.out)) hb); clear HO_4; clear HO_6; clear HO_7; clear HB; have HO_4 := n0_; have HO_6 := n1_; have HO_7 := n2_; have HO243 := n3_; have HB := n4_; clear n0_ n1_ n2_ n3_ n4_; (try clear hb); (try clear hb2); (try clear hk); (try clear hi); (try clear ho0); obtain ⟨Ao30, co30, eo30⟩ := Kd.R_slice HO243.out; subst eo30) | ((with_reducible refine gate_callee (f := 15) rfl ?_); refine goesL_ (some 44) rfl rfl Try.func15 (by kernel_rfl) rfl #[.slice Ao13 t233.length co13, .slice Ao30 t241.length co30] rfl (by (try simp only [List.map_toArray, List.map_cons, List.map_nil]); first | done | rfl | (simp only [List.length_drop, List.length_take]; rfl)) ?_; (with_reducible refine (laws_eqNodeS.calls kj7 _ _ t233 _ _ t241 true _ ?side1 ?side2 ?side3 ?side4 A25.out).mono ?_); (case side1 => repeat (first | exact (Kd.R_reads' HO_6.out).2.2 | (with_reducible refine Kd.C_alloc ?_ _) | (with_reducible refine Kd.C_drewN ?_ _) | (with_reducible refine Kd.C_drew ?_))); (case side2 => exact (Kd.R_reads' HO_6.out).2.1); (case side3 => repeat (first | exact (Kd.R_reads' HO243.out).2.2 | (with_reducible refine Kd.C_alloc ?_ _) | (with_reducible refine Kd.C_drewN ?_ _) | (with_reducible refine Kd.C_drew ?_))); (case side4 => exact (Kd.R_reads' HO243.out).2.1); rintro e w31 ⟨rfl, hb⟩; refine ⟨_, rfl, ?_⟩; have n0_ := Aside0.mk (Kd.R_below (by (with_reducible repeat (first | apply Kd.R_alloc | apply Kd.R_drewN | apply Kd.R_drew)); exact HO_4.out) hb); have n1_ := Aside0.mk (Kd.R_below (by (with_reducible repeat (first | apply Kd.R_alloc | apply Kd.R_drewN | apply Kd.R_drew)); exact HO_6.out) hb); have n2_ := Aside0.mk (Kd.R_below (by (with_reducible repeat (first | apply Kd.R_alloc | apply Kd.R_drewN | apply Kd.R_drew)); exact HO_7.out) hb); have n3_ := Aside0.mk (Kd.R_below (by (with_reducible repeat (first | apply Kd.R_alloc | apply Kd.R_drewN | apply Kd.R_drew)); exact HO243.out) hb); have n4_ := Aside0.mk (below_step (by repeat (first | (with_reducible first | exact HB.out | apply below_alloc | apply pw_below_drewN | apply below_drew1) | exact HB.out)) hb); clear HO_4; clear HO_6; clear HO_7; clear HO243; clear HB; have HO_4 := n0_; have HO_6 := n1_; have HO_7 := n2_; have HO243 := n3_; have HB := n4_; clear n0_ n1_ n2_ n3_ n4_; (try clear hb); (try clear hb2); (try clear hk); (try clear hi)) | ((with_reducible refine gate_callee (f := 20) rfl ?_); refine goesL_ (some 48) rfl rfl Try.func20 (by kernel_rfl) rfl #[.slice Ao13 t233.length co13, .int .i64 1] rfl (by (try simp only [List.map_toArray, List.map_cons, List.map_nil]); first | done | rfl | (simp only [List.length_drop, List.length_take]; rfl)) ?_; (with_reducible refine (laws_markNodeS.calls kj7 (fun k_ => some k_ = (.slice Ao13 t233.length co13 : Value).ownBlock) (.slice Ao13 t233.length co13) t233 1 t245 t246 w _ ?side1 ?side2 A27.out).mono ?_); (case side1 => repeat (first | (with_reducible first | exact HB.out | apply below_alloc | apply pw_below_drewN | apply below_drew1) | exact HB.out)); (case side2 => exact Kd.R_tight rfl HO_6.out); rintro e w32 ⟨rfl, hy0, hb, hkp⟩; refine ⟨_, rfl, ?_⟩; have n0_ := Aside0.mk (Kd.R_mono (ok' := fun k_ => some k_ ≠ (.slice Ao13 t233.length co13 : Value).ownBlock ∧ some k_ ≠ (v238 : Value).ownBlock ∧ some k_ ≠ (.slice Ao30 t241.length co30 : Value).ownBlock) (Kd.R_keptB (HO_4.out) hkp (fun k_ hk_ hs_ => (hk_.1.1) hs_)) (fun k_ hk_ => ⟨hk_.1.1.1, hk_.1.1.2, hk_.1.2⟩)); have n1_ := Aside0.mk (Kd.R_reok rfl hy0 (fun k_ e_ => HO_6.out.1 k_ e_)); have n2_ := Aside0.mk (Kd.R_mono (ok' := fun k_ => some k_ ≠ (v231 : Value).ownBlock ∧ some k_ ≠ (.slice Ao13 t233.length co13 : Value).ownBlock ∧ some k_ ≠ (.slice Ao30 t241.length co30 : Value).ownBlock) (Kd.R_keptB (HO_7.out) hkp (fun k_ hk_ hs_ => (hk_.1.2) hs_)) (fun k_ hk_ => ⟨hk_.1.1.1, hk_.1.1.2, hk_.1.2⟩)); have n3_ := Aside0.mk (Kd.R_mono (ok' := fun k_ => some k_ ≠ (v231 : Value).ownBlock ∧ some k_ ≠ (.slice Ao13 t233.length co13 : Value).ownBlock ∧ some k_ ≠ (v238 : Value).ownBlock) (Kd.R_keptB (HO243.out) hkp (fun k_ hk_ hs_ => (hk_.1.2) hs_)) (fun k_ hk_ => ⟨hk_.1.1.1.2, hk_.1.1.2, hk_.1.2⟩)); have n4_ := Aside0.mk (hb); clear HO_4; clear HO_6; clear HO_7; clear HO243; clear HB; have HO_4 := n0_; have HO_6 := n1_; have HO_7 := n2_; have HO243 := n3_; have HB := n4_; clear n0_ n1_ n2_ n3_ n4_; (try clear hb); (try clear hkp); (try clear hy0)))
            (try simp only [Act.put, List.setIfInBounds_toArray, List.set_cons_zero, List.set_cons_succ])
            go_cut [61] (fun v61 wc => ∃ (kq : Nat) (x61_27 : Bool), v61 = .bool x61_27 ∧ Aside0 (laws_FnExactLtlNot.j1 kq l0 t229 t230 t236 x61_27 = some r) ∧ Aside0 (kq ≤ kj7) ∧ Aside0 (Kd.R k45 45 wc w.heap.size (fun k_ => some k_ ≠ (v238 : Value).ownBlock) v231 t229) ∧ Aside0 (Kd.R k45 45 wc w.heap.size (fun k_ => some k_ ≠ (v231 : Value).ownBlock) v238 t236) ∧ Aside0 (Below w.heap.size w wc))
            case first =>
              have H := HC28.out
              clear HC28
              by_cases c33 : t245 < 0
              · rw [if_pos c33] at H
                have c33b0 : decide (t245 < 0) = true := decide_eq_true c33
                clear c33
                (first | rw [c33b0] | (simp only [i64_w, i32_w]; rw [c33b0]) | skip)
                have H' := Aside0.mk H
                clear H
                go_wp2
                go_meet
                case rel => exact ⟨_, (true), (by first | rfl | (simp; done) | (simp [*]; done) | (rw [Int.tmod_eq_emod_of_nonneg (Int.natCast_nonneg _)]; done)), H', ⟨by have := HJ7.out; first | omega | exact Nat.le_refl _⟩, ⟨by (with_reducible repeat (first | apply Kd.R_alloc | apply Kd.R_drewN | apply Kd.R_drew)); exact Kd.R_mono HO_4.out (fun _ hk => hk.2.1)⟩, ⟨by (with_reducible repeat (first | apply Kd.R_alloc | apply Kd.R_drewN | apply Kd.R_drew)); exact Kd.R_mono HO_7.out (fun _ hk => hk.1)⟩, ⟨by repeat (first | (with_reducible first | exact HB.out | apply below_alloc | apply pw_below_drewN | apply below_drew1) | exact HB.out)⟩⟩
              · rw [if_neg c33] at H
                have c33b0 : decide (t245 < 0) = false := decide_eq_false c33
                clear c33
                (first | rw [c33b0] | (simp only [i64_w, i32_w]; rw [c33b0]) | skip)
                replace H := Option.bind_eq_some_iff.mp H
                obtain ⟨t247, A340, H⟩ := H
                replace H : (if t247 = true then (laws_FnExactLtlNot.j1 kj7 l0 t229 t230 t236 (t237 != t230)) else (laws_FnExactLtlNot.j1 kj7 l0 t229 t230 t236 true)) = some r := H
                have A34 := Aside0.mk A340
                clear A340
                by_cases c35 : t247 = true
                · subst c35
                  have H1 : (laws_FnExactLtlNot.j1 kj7 l0 t229 t230 t236 (t237 != t230)) = some r := by rw [if_pos rfl] at H; exact H
                  clear H
                  have H := H1
                  clear H1
                  have H' := Aside0.mk H
                  clear H
                  obtain ⟨Ao36, co36, eo36⟩ := Kd.R_slice HO_7.out
                  subst eo36
                  obtain ⟨Ao37, co37, eo37⟩ := Kd.R_slice HO_4.out
                  subst eo37
                  go_wp2_with (first | (go_at_call 15; (with_reducible refine (laws_eqNodeS.calls kj7 _ _ t236 _ _ t229 true _ ?side1 ?side2 ?side3 ?side4 A34.out).mono ?_); (case side1 => repeat (first | exact (Kd.R_reads' HO_7.out).2.2 | (with_reducible refine Kd.C_alloc ?_ _) | (with_reducible refine Kd.C_drewN ?_ _) | (with_reducible refine Kd.C_drew ?_))); (case side2 => exact (Kd.R_reads' HO_7.out).2.1); (case side3 => repeat (first | exact (Kd.R_reads' HO_4.out).2.2 | (with_reducible refine Kd.C_alloc ?_ _) | (with_reducible refine Kd.C_drewN ?_ _) | (with_reducible refine Kd.C_drew ?_))); (case side4 => exact (Kd.R_reads' HO_4.out).2.1); rintro e w38 ⟨rfl, hb⟩; have n0_ := Aside0.mk (Kd.R_below (by (with_reducible repeat (first | apply Kd.R_alloc | apply Kd.R_drewN | apply Kd.R_drew)); exact HO_4.out) hb); have n1_ := Aside0.mk (Kd.R_below (by (with_reducible repeat (first | apply Kd.R_alloc | apply Kd.R_drewN | apply Kd.R_drew)); exact HO_6.out) hb); have n2_ := Aside0.mk (Kd.R_below (by (with_reducible repeat (first | apply Kd.R_alloc | apply Kd.R_drewN | apply Kd.R_drew)); exact HO_7.out) hb); have n3_ := Aside0.mk (Kd.R_below (by (with_reducible repeat (first | apply Kd.R_alloc | apply Kd.R_drewN | apply Kd.R_drew)); exact HO243.out) hb); have n4_ := Aside0.mk (below_step (by repeat (first | (with_reducible first | exact HB.out | apply below_alloc | apply pw_below_drewN | apply below_drew1) | exact HB.out)) hb); clear HO_4; clear HO_6; clear HO_7; clear HO243; clear HB; have HO_4 := n0_; have HO_6 := n1_; have HO_7 := n2_; have HO243 := n3_; have HB := n4_; clear n0_ n1_ n2_ n3_ n4_; (try clear hb); (try clear hb2); (try clear hk); (try clear hi)))
                  go_meet
                  case rel => exact ⟨_, ((t237 != t230)), (by first | rfl | (simp; done) | (simp [*]; done) | (rw [Int.tmod_eq_emod_of_nonneg (Int.natCast_nonneg _)]; done)), H', ⟨by have := HJ7.out; first | omega | exact Nat.le_refl _⟩, ⟨by (with_reducible repeat (first | apply Kd.R_alloc | apply Kd.R_drewN | apply Kd.R_drew)); exact Kd.R_mono HO_4.out (fun _ hk => hk.2.1)⟩, ⟨by (with_reducible repeat (first | apply Kd.R_alloc | apply Kd.R_drewN | apply Kd.R_drew)); exact Kd.R_mono HO_7.out (fun _ hk => hk.1)⟩, ⟨by repeat (first | (with_reducible first | exact HB.out | apply below_alloc | apply pw_below_drewN | apply below_drew1) | exact HB.out)⟩⟩
                · replace c35 := Bool.eq_false_iff.mpr c35
                  subst c35
                  have H1 : (laws_FnExactLtlNot.j1 kj7 l0 t229 t230 t236 true) = some r := by rw [if_neg (show ¬ (false = true) by decide)] at H; exact H
                  clear H
                  have H := H1
                  clear H1
                  have H' := Aside0.mk H
                  clear H
                  obtain ⟨Ao39, co39, eo39⟩ := Kd.R_slice HO_7.out
                  subst eo39
                  obtain ⟨Ao40, co40, eo40⟩ := Kd.R_slice HO_4.out
                  subst eo40
                  go_wp2_with (first | (go_at_call 15; (with_reducible refine (laws_eqNodeS.calls kj7 _ _ t236 _ _ t229 false _ ?side1 ?side2 ?side3 ?side4 A34.out).mono ?_); (case side1 => repeat (first | exact (Kd.R_reads' HO_7.out).2.2 | (with_reducible refine Kd.C_alloc ?_ _) | (with_reducible refine Kd.C_drewN ?_ _) | (with_reducible refine Kd.C_drew ?_))); (case side2 => exact (Kd.R_reads' HO_7.out).2.1); (case side3 => repeat (first | exact (Kd.R_reads' HO_4.out).2.2 | (with_reducible refine Kd.C_alloc ?_ _) | (with_reducible refine Kd.C_drewN ?_ _) | (with_reducible refine Kd.C_drew ?_))); (case side4 => exact (Kd.R_reads' HO_4.out).2.1); rintro e w41 ⟨rfl, hb⟩; have n0_ := Aside0.mk (Kd.R_below (by (with_reducible repeat (first | apply Kd.R_alloc | apply Kd.R_drewN | apply Kd.R_drew)); exact HO_4.out) hb); have n1_ := Aside0.mk (Kd.R_below (by (with_reducible repeat (first | apply Kd.R_alloc | apply Kd.R_drewN | apply Kd.R_drew)); exact HO_6.out) hb); have n2_ := Aside0.mk (Kd.R_below (by (with_reducible repeat (first | apply Kd.R_alloc | apply Kd.R_drewN | apply Kd.R_drew)); exact HO_7.out) hb); have n3_ := Aside0.mk (Kd.R_below (by (with_reducible repeat (first | apply Kd.R_alloc | apply Kd.R_drewN | apply Kd.R_drew)); exact HO243.out) hb); have n4_ := Aside0.mk (below_step (by repeat (first | (with_reducible first | exact HB.out | apply below_alloc | apply pw_below_drewN | apply below_drew1) | exact HB.out)) hb); clear HO_4; clear HO_6; clear HO_7; clear HO243; clear HB; have HO_4 := n0_; have HO_6 := n1_; have HO_7 := n2_; have HO243 := n3_; have HB := n4_; clear n0_ n1_ n2_ n3_ n4_; (try clear hb); (try clear hb2); (try clear hk); (try clear hi)))
                  go_meet
                  case rel => exact ⟨_, (true), (by first | rfl | (simp; done) | (simp [*]; done) | (rw [Int.tmod_eq_emod_of_nonneg (Int.natCast_nonneg _)]; done)), H', ⟨by have := HJ7.out; first | omega | exact Nat.le_refl _⟩, ⟨by (with_reducible repeat (first | apply Kd.R_alloc | apply Kd.R_drewN | apply Kd.R_drew)); exact Kd.R_mono HO_4.out (fun _ hk => hk.2.1)⟩, ⟨by (with_reducible repeat (first | apply Kd.R_alloc | apply Kd.R_drewN | apply Kd.R_drew)); exact Kd.R_mono HO_7.out (fun _ hk => hk.1)⟩, ⟨by repeat (first | (with_reducible first | exact HB.out | apply below_alloc | apply pw_below_drewN | apply below_drew1) | exact HB.out)⟩⟩
            case rest =>
              clear HC28
              try clear c1
              try clear c2
              try clear p2
              try clear c3
              try clear c3b0
              try clear c8
              try clear c11
              try clear c13
              try clear c15
              try clear c16
              try clear c20
              try clear c23
              try clear c26
              try clear c27
              try clear c33
              try clear c33b0
              try clear c35
              try clear p2
              obtain ⟨kq, x61_27, rfl, HA, HJ27, HO_4, HO_7, HB⟩ := hcut
              cases kq with
              | zero => exact absurd HA.out (by simp [laws_FnExactLtlNot.j1])
              | succ kj27 =>
                have H := HA.out
                clear HA
                simp only [laws_FnExactLtlNot.j1] at H
                by_cases c42 : x61_27 = true
                · subst c42
                  have H1 : (some false) = some r := by rw [if_pos rfl] at H; exact H
                  clear H
                  have H := H1
                  clear H1
                  obtain rfl := Option.some.inj H
                  go_wp2
                  go_ret
                  exact ⟨by first | rfl | (simp [errW_none, errW_some] <;> rfl) | (simp [*, errW_none, errW_some] <;> rfl), by repeat (first | (with_reducible first | exact HB.out | apply below_alloc | apply pw_below_drewN | apply below_drew1) | exact HB.out)⟩
                · replace c42 := Bool.eq_false_iff.mpr c42
                  subst c42
                  have H1 : ((laws_markNodeS.f kj27 t236 1).bind fun bt248 => ((laws_heldNodeS.f kj27 bt248.2 1).bind fun t250 => (if t250 < 0 then (some false) else (if t250 = bt248.1 then ((laws_toNodeS.f kj27 l0).bind fun t251 => ((impl_LtlNot.f kj27 t251).bind fun bt254 => ((laws_eqNodeS.f kj27 bt254.1 t229).bind fun t258 => (if t258 = true then (laws_FnExactLtlNot.j2 kj27 bt248.2 bt248.1 (bt254.2 != t230)) else (laws_FnExactLtlNot.j2 kj27 bt248.2 bt248.1 true))))) else (some false))))) = some r := by rw [if_neg (show ¬ (false = true) by decide)] at H; exact H
                  clear H
                  have H := H1
                  clear H1
                  replace H := Option.bind_eq_some_iff.mp H
                  obtain ⟨⟨t248, t249⟩, A430, H⟩ := H
                  replace H : ((laws_heldNodeS.f kj27 t249 1).bind fun t250 => (if t250 < 0 then (some false) else (if t250 = t248 then ((laws_toNodeS.f kj27 l0).bind fun t251 => ((impl_LtlNot.f kj27 t251).bind fun bt254 => ((laws_eqNodeS.f kj27 bt254.1 t229).bind fun t258 => (if t258 = true then (laws_FnExactLtlNot.j2 kj27 t249 t248 (bt254.2 != t230)) else (laws_FnExactLtlNot.j2 kj27 t249 t248 true))))) else (some false)))) = some r := H
                  have A43 := Aside0.mk A430
                  clear A430
                  replace H := Option.bind_eq_some_iff.mp H
                  obtain ⟨t250, A440, H⟩ := H
                  replace H : (if t250 < 0 then (some false) else (if t250 = t248 then ((laws_toNodeS.f kj27 l0).bind fun t251 => ((impl_LtlNot.f kj27 t251).bind fun bt254 => ((laws_eqNodeS.f kj27 bt254.1 t229).bind fun t258 => (if t258 = true then (laws_FnExactLtlNot.j2 kj27 t249 t248 (bt254.2 != t230)) else (laws_FnExactLtlNot.j2 kj27 t249 t248 true))))) else (some false))) = some r := H
                  have A44 := Aside0.mk A440
                  clear A440
                  by_cases c45 : t250 < 0
                  · rw [if_pos c45] at H
                    have c45b0 : decide (t250 < 0) = true := decide_eq_true c45
                    clear c45
                    obtain rfl := Option.some.inj H
                    obtain ⟨Ao46, co46, eo46⟩ := Kd.R_slice HO_7.out
                    subst eo46
                    go_wp2_with (first | ((with_reducible refine gate_callee (f := 20) rfl ?_); refine goesL_ (some 64) rfl rfl Try.func20 (by kernel_rfl) rfl #[.slice Ao46 t236.length co46, .int .i64 1] rfl (by (try simp only [List.map_toArray, List.map_cons, List.map_nil]); first | done | rfl | (simp only [List.length_drop, List.length_take]; rfl)) ?_; (with_reducible refine (laws_markNodeS.calls kj27 (fun k_ => some k_ = (.slice Ao46 t236.length co46 : Value).ownBlock) (.slice Ao46 t236.length co46) t236 1 t248 t249 w _ ?side1 ?side2 A43.out).mono ?_); (case side1 => repeat (first | (with_reducible first | exact HB.out | apply below_alloc | apply pw_below_drewN | apply below_drew1) | exact HB.out)); (case side2 => exact Kd.R_tight rfl HO_7.out); rintro e w47 ⟨rfl, hy0, hb, hkp⟩; refine ⟨_, rfl, ?_⟩; have n0_ := Aside0.mk (Kd.R_mono (ok' := fun k_ => some k_ ≠ (.slice Ao46 t236.length co46 : Value).ownBlock) (Kd.R_keptB (HO_4.out) hkp (fun k_ hk_ hs_ => (hk_) hs_)) (fun k_ hk_ => hk_.1)); have n1_ := Aside0.mk (Kd.R_reok rfl hy0 (fun k_ e_ => HO_7.out.1 k_ e_)); have n2_ := Aside0.mk (hb); clear HO_4; clear HO_7; clear HB; have HO_4 := n0_; have HO_7 := n1_; have HB := n2_; clear n0_ n1_ n2_; (try clear hb); (try clear hkp); (try clear hy0)) | ((with_reducible refine gate_callee (f := 21) rfl ?_); refine goesL_ (some 67) rfl rfl Try.func21 (by kernel_rfl) rfl #[.slice Ao46 t249.length co46, .int .i64 1] rfl (by (try simp only [List.map_toArray, List.map_cons, List.map_nil]); first | done | (rw [show t249.length = t236.length from (Kd.R_reads' HO_7.out).1.symm] <;> rfl) | rfl | (simp only [List.length_drop, List.length_take]; rfl)) ?_; (with_reducible refine (laws_heldNodeS.calls kj27 _ _ t249 1 t250 _ ?side1 ?side2 A44.out).mono ?_); (case side1 => repeat (first | exact (Kd.R_reads' HO_7.out).2.2 | (with_reducible refine Kd.C_alloc ?_ _) | (with_reducible refine Kd.C_drewN ?_ _) | (with_reducible refine Kd.C_drew ?_))); (case side2 => rw [show t249.length = t236.length from (Kd.R_reads' HO_7.out).1.symm]; exact (Kd.R_reads' HO_7.out).2.1); rintro e w' ⟨rfl, ⟨nd, rfl⟩⟩; refine ⟨_, rfl, ?_⟩))
                    go_ret
                    exact ⟨by first | rfl | (simp [errW_none, errW_some] <;> rfl) | (simp [*, errW_none, errW_some] <;> rfl), by repeat (first | (with_reducible first | exact HB.out | apply below_alloc | apply pw_below_drewN | apply below_drew1) | exact HB.out)⟩
                  · rw [if_neg c45] at H
                    have c45b0 : decide (t250 < 0) = false := decide_eq_false c45
                    clear c45
                    by_cases c48 : t250 = t248
                    · rw [if_pos c48] at H
                      have c48b0 : (t250 == t248) = true := beq_iff_eq.mpr c48
                      have c48b1 : (t250 != t248) = false := bne_eq_false_iff_eq.mpr c48
                      clear c48
                      replace H := Option.bind_eq_some_iff.mp H
                      obtain ⟨t251, A490, H⟩ := H
                      replace H : ((impl_LtlNot.f kj27 t251).bind fun bt254 => ((laws_eqNodeS.f kj27 bt254.1 t229).bind fun t258 => (if t258 = true then (laws_FnExactLtlNot.j2 kj27 t249 t248 (bt254.2 != t230)) else (laws_FnExactLtlNot.j2 kj27 t249 t248 true)))) = some r := H
                      have A49 := Aside0.mk A490
                      clear A490
                      replace H := Option.bind_eq_some_iff.mp H
                      obtain ⟨⟨t254, t255⟩, A500, H⟩ := H
                      replace H : ((laws_eqNodeS.f kj27 t254 t229).bind fun t258 => (if t258 = true then (laws_FnExactLtlNot.j2 kj27 t249 t248 (t255 != t230)) else (laws_FnExactLtlNot.j2 kj27 t249 t248 true))) = some r := H
                      have A50 := Aside0.mk A500
                      clear A500
                      have HC51 := Aside0.mk H
                      clear H
                      obtain ⟨Ao52, co52, eo52⟩ := Kd.R_slice HO_7.out
                      subst eo52
                      go_upto_region 25 with (first | ((with_reducible refine gate_callee (f := 20) rfl ?_); refine goesL_ (some 64) rfl rfl Try.func20 (by kernel_rfl) rfl #[.slice Ao52 t236.length co52, .int .i64 1] rfl (by (try simp only [List.map_toArray, List.map_cons, List.map_nil]); first | done | rfl | (simp only [List.length_drop, List.length_take]; rfl)) ?_; (with_reducible refine (laws_markNodeS.calls kj27 (fun k_ => some k_ = (.slice Ao52 t236.length co52 : Value).ownBlock) (.slice Ao52 t236.length co52) t236 1 t248 t249 w _ ?side1 ?side2 A43.out).mono ?_); (case side1 => repeat (first | (with_reducible first | exact HB.out | apply below_alloc | apply pw_below_drewN | apply below_drew1) | exact HB.out)); (case side2 => exact Kd.R_tight rfl HO_7.out); rintro e w53 ⟨rfl, hy0, hb, hkp⟩; refine ⟨_, rfl, ?_⟩; have n0_ := Aside0.mk (Kd.R_mono (ok' := fun k_ => some k_ ≠ (.slice Ao52 t236.length co52 : Value).ownBlock) (Kd.R_keptB (HO_4.out) hkp (fun k_ hk_ hs_ => (hk_) hs_)) (fun k_ hk_ => hk_.1)); have n1_ := Aside0.mk (Kd.R_reok rfl hy0 (fun k_ e_ => HO_7.out.1 k_ e_)); have n2_ := Aside0.mk (hb); clear HO_4; clear HO_7; clear HB; have HO_4 := n0_; have HO_7 := n1_; have HB := n2_; clear n0_ n1_ n2_; (try clear hb); (try clear hkp); (try clear hy0)) | ((with_reducible refine gate_callee (f := 21) rfl ?_); refine goesL_ (some 67) rfl rfl Try.func21 (by kernel_rfl) rfl #[.slice Ao52 t249.length co52, .int .i64 1] rfl (by (try simp only [List.map_toArray, List.map_cons, List.map_nil]); first | done | (rw [show t249.length = t236.length from (Kd.R_reads' HO_7.out).1.symm] <;> rfl) | rfl | (simp only [List.length_drop, List.length_take]; rfl)) ?_; (with_reducible refine (laws_heldNodeS.calls kj27 _ _ t249 1 t250 _ ?side1 ?side2 A44.out).mono ?_); (case side1 => repeat (first | exact (Kd.R_reads' HO_7.out).2.2 | (with_reducible refine Kd.C_alloc ?_ _) | (with_reducible refine Kd.C_drewN ?_ _) | (with_reducible refine Kd.C_drew ?_))); (case side2 => rw [show t249.length = t236.length from (Kd.R_reads' HO_7.out).1.symm]; exact (Kd.R_reads' HO_7.out).2.1); rintro e w' ⟨rfl, ⟨nd, rfl⟩⟩; refine ⟨_, rfl, ?_⟩) | ((with_reducible refine gate_callee (f := 13) rfl ?_); refine goesL_ (some 75) rfl rfl Try.func13 (by kernel_rfl) rfl #[.slice A0 l0.length c0] rfl (by (try simp only [List.map_toArray, List.map_cons, List.map_nil]); first | done | rfl | (simp only [List.length_drop, List.length_take]; rfl)) ?_; (with_reducible refine (laws_toNodeS.calls kj27 _ _ l0 t251 _ ?side1 ?side2 A49.out).mono ?_); (case side1 => repeat (first | exact (Kd.C_below HR0.out (by repeat (first | (with_reducible first | exact HB.out | apply below_alloc | apply pw_below_drewN | apply below_drew1) | exact HB.out))) | (with_reducible refine Kd.C_alloc ?_ _) | (with_reducible refine Kd.C_drewN ?_ _) | (with_reducible refine Kd.C_drew ?_))); (case side2 => exact HC0.out); rintro e w54 ⟨v252, rfl, ho0, hb⟩; refine ⟨_, rfl, ?_⟩; have n0_ := Aside0.mk (Kd.R_elder' (by (with_reducible repeat (first | apply Kd.R_alloc | apply Kd.R_drewN | apply Kd.R_drew)); exact HO_4.out) (Kd.R_base ho0) hb); have n1_ := Aside0.mk (Kd.R_elder' (by (with_reducible repeat (first | apply Kd.R_alloc | apply Kd.R_drewN | apply Kd.R_drew)); exact HO_7.out) (Kd.R_base ho0) hb); have n2_ := Aside0.mk (Kd.R_lower (Kd.R_new' (Kd.R_new' ho0 (Kd.R_lt (by (with_reducible repeat (first | apply Kd.R_alloc | apply Kd.R_drewN | apply Kd.R_drew)); exact HO_4.out))) (Kd.R_lt (by (with_reducible repeat (first | apply Kd.R_alloc | apply Kd.R_drewN | apply Kd.R_drew)); exact HO_7.out))) (below_size (by repeat (first | (with_reducible first | exact HB.out | apply below_alloc | apply pw_below_drewN | apply below_drew1) | exact HB.out)))); have n3_ := Aside0.mk (below_step (by repeat (first | (with_reducible first | exact HB.out | apply below_alloc | apply pw_below_drewN | apply below_drew1) | exact HB.out)) hb); clear HO_4; clear HO_7; clear HB; have HO_4 := n0_; have HO_7 := n1_; have HO253 := n2_; have HB := n3_; clear n0_ n1_ n2_ n3_; (try clear hb); (try clear hb2); (try clear hk); (try clear hi); (try clear ho0); obtain ⟨Ao55, co55, eo55⟩ := Kd.R_slice HO253.out; subst eo55) | ((with_reducible refine gate_callee (f := 27) rfl ?_); refine goesL_ (some 76) rfl rfl Try.func27 (by kernel_rfl) rfl #[.slice Ao55 t251.length co55] rfl (by (try simp only [List.map_toArray, List.map_cons, List.map_nil]); first | done | rfl | (simp only [List.length_drop, List.length_take]; rfl)) ?_; (with_reducible refine (impl_LtlNot.calls kj27 _ _ t251 t254 t255 _ ?side1 ?side2 A50.out).mono ?_); (case side1 => repeat (first | exact (Kd.R_reads' HO253.out).2.2 | (with_reducible refine Kd.C_alloc ?_ _) | (with_reducible refine Kd.C_drewN ?_ _) | (with_reducible refine Kd.C_drew ?_))); (case side2 => exact (Kd.R_reads' HO253.out).2.1); rintro e w56 ⟨v256, rfl, ho0, hb⟩; refine ⟨_, rfl, ?_⟩; have n0_ := Aside0.mk (Kd.R_elder' (by (with_reducible repeat (first | apply Kd.R_alloc | apply Kd.R_drewN | apply Kd.R_drew)); exact HO_4.out) (Kd.R_base ho0) hb); have n1_ := Aside0.mk (Kd.R_elder' (by (with_reducible repeat (first | apply Kd.R_alloc | apply Kd.R_drewN | apply Kd.R_drew)); exact HO_7.out) (Kd.R_base ho0) hb); have n2_ := Aside0.mk (Kd.R_elder' (by (with_reducible repeat (first | apply Kd.R_alloc | apply Kd.R_drewN | apply Kd.R_drew)); exact HO253.out) (Kd.R_base ho0) hb); have n3_ := Aside0.mk (Kd.R_lower (Kd.R_new' (Kd.R_new' (Kd.R_new' ho0 (Kd.R_lt (by (with_reducible repeat (first | apply Kd.R_alloc | apply Kd.R_drewN | apply Kd.R_drew)); exact HO_4.out))) (Kd.R_lt (by (with_reducible repeat (first | apply Kd.R_alloc | apply Kd.R_drewN | apply Kd.R_drew)); exact HO_7.out))) (Kd.R_lt (by (with_reducible repeat (first | apply Kd.R_alloc | apply Kd.R_drewN | apply Kd.R_drew)); exact HO253.out))) (below_size (by repeat (first | (with_reducible first | exact HB.out | apply below_alloc | apply pw_below_drewN | apply below_drew1) | exact HB.out)))); have n4_ := Aside0.mk (below_step (by repeat (first | (with_reducible first | exact HB.out | apply below_alloc | apply pw_below_drewN | apply below_drew1) | exact HB.out)) hb); clear HO_4; clear HO_7; clear HO253; clear HB; have HO_4 := n0_; have HO_7 := n1_; have HO253 := n2_; have HO257 := n3_; have HB := n4_; clear n0_ n1_ n2_ n3_ n4_; (try clear hb); (try clear hb2); (try clear hk); (try clear hi); (try clear ho0)))
                      (try simp only [Act.put, List.setIfInBounds_toArray, List.set_cons_zero, List.set_cons_succ])
                      go_cut [87] (fun v87 wc => ∃ (kq : Nat) (x87_50 : Bool), v87 = .bool x87_50 ∧ Aside0 (laws_FnExactLtlNot.j2 kq t249 t248 x87_50 = some r) ∧ Aside0 (kq ≤ kj27) ∧ Aside0 (Kd.R k45 45 wc w.heap.size (fun _ => True) (.slice Ao52 t236.length co52) t249) ∧ Aside0 (Below w.heap.size w wc))
                      case first =>
                        have H := HC51.out
                        clear HC51
                        replace H := Option.bind_eq_some_iff.mp H
                        obtain ⟨t258, A570, H⟩ := H
                        replace H : (if t258 = true then (laws_FnExactLtlNot.j2 kj27 t249 t248 (t255 != t230)) else (laws_FnExactLtlNot.j2 kj27 t249 t248 true)) = some r := H
                        have A57 := Aside0.mk A570
                        clear A570
                        by_cases c58 : t258 = true
                        · subst c58
                          have H1 : (laws_FnExactLtlNot.j2 kj27 t249 t248 (t255 != t230)) = some r := by rw [if_pos rfl] at H; exact H
                          clear H
                          have H := H1
                          clear H1
                          have H' := Aside0.mk H
                          clear H
                          obtain ⟨Ao59, co59, eo59⟩ := Kd.R_slice HO257.out
                          subst eo59
                          obtain ⟨Ao60, co60, eo60⟩ := Kd.R_slice HO_4.out
                          subst eo60
                          go_wp2_with (first | ((with_reducible refine gate_callee (f := 15) rfl ?_); refine goesL_ (some 81) rfl rfl Try.func15 (by kernel_rfl) rfl #[.slice Ao59 t254.length co59, .slice Ao60 t229.length co60] rfl (by (try simp only [List.map_toArray, List.map_cons, List.map_nil]); first | done | rfl | (simp only [List.length_drop, List.length_take]; rfl)) ?_; (with_reducible refine (laws_eqNodeS.calls kj27 _ _ t254 _ _ t229 true _ ?side1 ?side2 ?side3 ?side4 A57.out).mono ?_); (case side1 => repeat (first | exact (Kd.R_reads' HO257.out).2.2 | (with_reducible refine Kd.C_alloc ?_ _) | (with_reducible refine Kd.C_drewN ?_ _) | (with_reducible refine Kd.C_drew ?_))); (case side2 => exact (Kd.R_reads' HO257.out).2.1); (case side3 => repeat (first | exact (Kd.R_reads' HO_4.out).2.2 | (with_reducible refine Kd.C_alloc ?_ _) | (with_reducible refine Kd.C_drewN ?_ _) | (with_reducible refine Kd.C_drew ?_))); (case side4 => exact (Kd.R_reads' HO_4.out).2.1); rintro e w61 ⟨rfl, hb⟩; refine ⟨_, rfl, ?_⟩; have n0_ := Aside0.mk (Kd.R_below (by (with_reducible repeat (first | apply Kd.R_alloc | apply Kd.R_drewN | apply Kd.R_drew)); exact HO_4.out) hb); have n1_ := Aside0.mk (Kd.R_below (by (with_reducible repeat (first | apply Kd.R_alloc | apply Kd.R_drewN | apply Kd.R_drew)); exact HO_7.out) hb); have n2_ := Aside0.mk (Kd.R_below (by (with_reducible repeat (first | apply Kd.R_alloc | apply Kd.R_drewN | apply Kd.R_drew)); exact HO253.out) hb); have n3_ := Aside0.mk (Kd.R_below (by (with_reducible repeat (first | apply Kd.R_alloc | apply Kd.R_drewN | apply Kd.R_drew)); exact HO257.out) hb); have n4_ := Aside0.mk (below_step (by repeat (first | (with_reducible first | exact HB.out | apply below_alloc | apply pw_below_drewN | apply below_drew1) | exact HB.out)) hb); clear HO_4; clear HO_7; clear HO253; clear HO257; clear HB; have HO_4 := n0_; have HO_7 := n1_; have HO253 := n2_; have HO257 := n3_; have HB := n4_; clear n0_ n1_ n2_ n3_ n4_; (try clear hb); (try clear hb2); (try clear hk); (try clear hi)))
                          go_meet
                          case rel => exact ⟨_, ((t255 != t230)), (by first | rfl | (simp; done) | (simp [*]; done) | (rw [Int.tmod_eq_emod_of_nonneg (Int.natCast_nonneg _)]; done)), H', ⟨by have := HJ7.out; have := HJ27.out; first | omega | exact Nat.le_refl _⟩, ⟨by (with_reducible repeat (first | apply Kd.R_alloc | apply Kd.R_drewN | apply Kd.R_drew)); exact Kd.R_mono HO_7.out (fun _ hk => trivial)⟩, ⟨by repeat (first | (with_reducible first | exact HB.out | apply below_alloc | apply pw_below_drewN | apply below_drew1) | exact HB.out)⟩⟩
                        · replace c58 := Bool.eq_false_iff.mpr c58
                          subst c58
                          have H1 : (laws_FnExactLtlNot.j2 kj27 t249 t248 true) = some r := by rw [if_neg (show ¬ (false = true) by decide)] at H; exact H
                          clear H
                          have H := H1
                          clear H1
                          have H' := Aside0.mk H
                          clear H
                          obtain ⟨Ao62, co62, eo62⟩ := Kd.R_slice HO257.out
                          subst eo62
                          obtain ⟨Ao63, co63, eo63⟩ := Kd.R_slice HO_4.out
                          subst eo63
                          go_wp2_with (first | ((with_reducible refine gate_callee (f := 15) rfl ?_); refine goesL_ (some 81) rfl rfl Try.func15 (by kernel_rfl) rfl #[.slice Ao62 t254.length co62, .slice Ao63 t229.length co63] rfl (by (try simp only [List.map_toArray, List.map_cons, List.map_nil]); first | done | rfl | (simp only [List.length_drop, List.length_take]; rfl)) ?_; (with_reducible refine (laws_eqNodeS.calls kj27 _ _ t254 _ _ t229 false _ ?side1 ?side2 ?side3 ?side4 A57.out).mono ?_); (case side1 => repeat (first | exact (Kd.R_reads' HO257.out).2.2 | (with_reducible refine Kd.C_alloc ?_ _) | (with_reducible refine Kd.C_drewN ?_ _) | (with_reducible refine Kd.C_drew ?_))); (case side2 => exact (Kd.R_reads' HO257.out).2.1); (case side3 => repeat (first | exact (Kd.R_reads' HO_4.out).2.2 | (with_reducible refine Kd.C_alloc ?_ _) | (with_reducible refine Kd.C_drewN ?_ _) | (with_reducible refine Kd.C_drew ?_))); (case side4 => exact (Kd.R_reads' HO_4.out).2.1); rintro e w64 ⟨rfl, hb⟩; refine ⟨_, rfl, ?_⟩; have n0_ := Aside0.mk (Kd.R_below (by (with_reducible repeat (first | apply Kd.R_alloc | apply Kd.R_drewN | apply Kd.R_drew)); exact HO_4.out) hb); have n1_ := Aside0.mk (Kd.R_below (by (with_reducible repeat (first | apply Kd.R_alloc | apply Kd.R_drewN | apply Kd.R_drew)); exact HO_7.out) hb); have n2_ := Aside0.mk (Kd.R_below (by (with_reducible repeat (first | apply Kd.R_alloc | apply Kd.R_drewN | apply Kd.R_drew)); exact HO253.out) hb); have n3_ := Aside0.mk (Kd.R_below (by (with_reducible repeat (first | apply Kd.R_alloc | apply Kd.R_drewN | apply Kd.R_drew)); exact HO257.out) hb); have n4_ := Aside0.mk (below_step (by repeat (first | (with_reducible first | exact HB.out | apply below_alloc | apply pw_below_drewN | apply below_drew1) | exact HB.out)) hb); clear HO_4; clear HO_7; clear HO253; clear HO257; clear HB; have HO_4 := n0_; have HO_7 := n1_; have HO253 := n2_; have HO257 := n3_; have HB := n4_; clear n0_ n1_ n2_ n3_ n4_; (try clear hb); (try clear hb2); (try clear hk); (try clear hi)))
                          go_meet
                          case rel => exact ⟨_, (true), (by first | rfl | (simp; done) | (simp [*]; done) | (rw [Int.tmod_eq_emod_of_nonneg (Int.natCast_nonneg _)]; done)), H', ⟨by have := HJ7.out; have := HJ27.out; first | omega | exact Nat.le_refl _⟩, ⟨by (with_reducible repeat (first | apply Kd.R_alloc | apply Kd.R_drewN | apply Kd.R_drew)); exact Kd.R_mono HO_7.out (fun _ hk => trivial)⟩, ⟨by repeat (first | (with_reducible first | exact HB.out | apply below_alloc | apply pw_below_drewN | apply below_drew1) | exact HB.out)⟩⟩
                      case rest =>
                        clear HC51
                        try clear c1
                        try clear c2
                        try clear p2
                        try clear c3
                        try clear c3b0
                        try clear c4
                        try clear c5
                        try clear c8
                        try clear c11
                        try clear c13
                        try clear c15
                        try clear c16
                        try clear c20
                        try clear c21
                        try clear c23
                        try clear c26
                        try clear c27
                        try clear c33
                        try clear c33b0
                        try clear c35
                        try clear c42
                        try clear c45
                        try clear c45b0
                        try clear c48
                        try clear c48b0
                        try clear c48b1
                        try clear c58
                        try clear p2
                        obtain ⟨kq, x87_50, rfl, HA, HJ50, HO_7, HB⟩ := hcut
                        have hl7_50 := (Kd.R_reads' HO_7.out).1
                        rw [hl7_50] at HO_7
                        (try simp only [hl7_50])
                        cases kq with
                        | zero => exact absurd HA.out (by simp [laws_FnExactLtlNot.j2])
                        | succ kj50 =>
                          have H := HA.out
                          clear HA
                          simp only [laws_FnExactLtlNot.j2] at H
                          by_cases c65 : x87_50 = true
                          · subst c65
                            have H1 : (some false) = some r := by rw [if_pos rfl] at H; exact H
                            clear H
                            have H := H1
                            clear H1
                            obtain rfl := Option.some.inj H
                            go_wp2
                            go_ret
                            exact ⟨by first | rfl | (simp [errW_none, errW_some] <;> rfl) | (simp [*, errW_none, errW_some] <;> rfl), by repeat (first | (with_reducible first | exact HB.out | apply below_alloc | apply pw_below_drewN | apply below_drew1) | exact HB.out)⟩
                          · replace c65 := Bool.eq_false_iff.mpr c65
                            subst c65
                            have H1 : ((laws_heldNodeS.f kj50 t249 1).bind fun t259 => (if t259 < 0 then (some false) else (if t259 = t248 then (some true) else (some false)))) = some r := by rw [if_neg (show ¬ (false = true) by decide)] at H; exact H
                            clear H
                            have H := H1
                            clear H1
                            replace H := Option.bind_eq_some_iff.mp H
                            obtain ⟨t259, A660, H⟩ := H
                            replace H : (if t259 < 0 then (some false) else (if t259 = t248 then (some true) else (some false))) = some r := H
                            have A66 := Aside0.mk A660
                            clear A660
                            by_cases c67 : t259 < 0
                            · rw [if_pos c67] at H
                              have c67b0 : decide (t259 < 0) = true := decide_eq_true c67
                              clear c67
                              obtain rfl := Option.some.inj H
                              go_wp2_with (first | ((with_reducible refine gate_callee (f := 21) rfl ?_); refine goesL_ (some 90) rfl rfl Try.func21 (by kernel_rfl) rfl #[.slice Ao52 t249.length co52, .int .i64 1] rfl (by (try simp only [List.map_toArray, List.map_cons, List.map_nil]); first | done | rfl | (simp only [List.length_drop, List.length_take]; rfl)) ?_; (with_reducible refine (laws_heldNodeS.calls kj50 _ _ t249 1 t259 _ ?side1 ?side2 A66.out).mono ?_); (case side1 => repeat (first | exact (Kd.R_reads' HO_7.out).2.2 | (with_reducible refine Kd.C_alloc ?_ _) | (with_reducible refine Kd.C_drewN ?_ _) | (with_reducible refine Kd.C_drew ?_))); (case side2 => exact (Kd.R_reads' HO_7.out).2.1); rintro e w' ⟨rfl, ⟨nd, rfl⟩⟩; refine ⟨_, rfl, ?_⟩))
                              go_ret
                              exact ⟨by first | rfl | (simp [errW_none, errW_some] <;> rfl) | (simp [*, errW_none, errW_some] <;> rfl), by repeat (first | (with_reducible first | exact HB.out | apply below_alloc | apply pw_below_drewN | apply below_drew1) | exact HB.out)⟩
                            · rw [if_neg c67] at H
                              have c67b0 : decide (t259 < 0) = false := decide_eq_false c67
                              clear c67
                              by_cases c68 : t259 = t248
                              · rw [if_pos c68] at H
                                have c68b0 : (t259 == t248) = true := beq_iff_eq.mpr c68
                                have c68b1 : (t259 != t248) = false := bne_eq_false_iff_eq.mpr c68
                                clear c68
                                obtain rfl := Option.some.inj H
                                go_wp2_with (first | ((with_reducible refine gate_callee (f := 21) rfl ?_); refine goesL_ (some 90) rfl rfl Try.func21 (by kernel_rfl) rfl #[.slice Ao52 t249.length co52, .int .i64 1] rfl (by (try simp only [List.map_toArray, List.map_cons, List.map_nil]); first | done | rfl | (simp only [List.length_drop, List.length_take]; rfl)) ?_; (with_reducible refine (laws_heldNodeS.calls kj50 _ _ t249 1 t259 _ ?side1 ?side2 A66.out).mono ?_); (case side1 => repeat (first | exact (Kd.R_reads' HO_7.out).2.2 | (with_reducible refine Kd.C_alloc ?_ _) | (with_reducible refine Kd.C_drewN ?_ _) | (with_reducible refine Kd.C_drew ?_))); (case side2 => exact (Kd.R_reads' HO_7.out).2.1); rintro e w' ⟨rfl, ⟨nd, rfl⟩⟩; refine ⟨_, rfl, ?_⟩))
                                go_ret
                                exact ⟨by first | rfl | (simp [errW_none, errW_some] <;> rfl) | (simp [*, errW_none, errW_some] <;> rfl), by repeat (first | (with_reducible first | exact HB.out | apply below_alloc | apply pw_below_drewN | apply below_drew1) | exact HB.out)⟩
                              · rw [if_neg c68] at H
                                have c68b0 : (t259 == t248) = false := beq_eq_false_iff_ne.mpr c68
                                have c68b1 : (t259 != t248) = true := bne_iff_ne.mpr c68
                                obtain rfl := Option.some.inj H
                                go_wp2_with (first | ((with_reducible refine gate_callee (f := 21) rfl ?_); refine goesL_ (some 90) rfl rfl Try.func21 (by kernel_rfl) rfl #[.slice Ao52 t249.length co52, .int .i64 1] rfl (by (try simp only [List.map_toArray, List.map_cons, List.map_nil]); first | done | rfl | (simp only [List.length_drop, List.length_take]; rfl)) ?_; (with_reducible refine (laws_heldNodeS.calls kj50 _ _ t249 1 t259 _ ?side1 ?side2 A66.out).mono ?_); (case side1 => repeat (first | exact (Kd.R_reads' HO_7.out).2.2 | (with_reducible refine Kd.C_alloc ?_ _) | (with_reducible refine Kd.C_drewN ?_ _) | (with_reducible refine Kd.C_drew ?_))); (case side2 => exact (Kd.R_reads' HO_7.out).2.1); rintro e w' ⟨rfl, ⟨nd, rfl⟩⟩; refine ⟨_, rfl, ?_⟩))
                                go_ret
                                exact ⟨by first | rfl | (simp [errW_none, errW_some] <;> rfl) | (simp [*, errW_none, errW_some] <;> rfl), by repeat (first | (with_reducible first | exact HB.out | apply below_alloc | apply pw_below_drewN | apply below_drew1) | exact HB.out)⟩
                    · rw [if_neg c48] at H
                      have c48b0 : (t250 == t248) = false := beq_eq_false_iff_ne.mpr c48
                      have c48b1 : (t250 != t248) = true := bne_iff_ne.mpr c48
                      obtain rfl := Option.some.inj H
                      obtain ⟨Ao69, co69, eo69⟩ := Kd.R_slice HO_7.out
                      subst eo69
                      go_wp2_with (first | ((with_reducible refine gate_callee (f := 20) rfl ?_); refine goesL_ (some 64) rfl rfl Try.func20 (by kernel_rfl) rfl #[.slice Ao69 t236.length co69, .int .i64 1] rfl (by (try simp only [List.map_toArray, List.map_cons, List.map_nil]); first | done | rfl | (simp only [List.length_drop, List.length_take]; rfl)) ?_; (with_reducible refine (laws_markNodeS.calls kj27 (fun k_ => some k_ = (.slice Ao69 t236.length co69 : Value).ownBlock) (.slice Ao69 t236.length co69) t236 1 t248 t249 w _ ?side1 ?side2 A43.out).mono ?_); (case side1 => repeat (first | (with_reducible first | exact HB.out | apply below_alloc | apply pw_below_drewN | apply below_drew1) | exact HB.out)); (case side2 => exact Kd.R_tight rfl HO_7.out); rintro e w70 ⟨rfl, hy0, hb, hkp⟩; refine ⟨_, rfl, ?_⟩; have n0_ := Aside0.mk (Kd.R_mono (ok' := fun k_ => some k_ ≠ (.slice Ao69 t236.length co69 : Value).ownBlock) (Kd.R_keptB (HO_4.out) hkp (fun k_ hk_ hs_ => (hk_) hs_)) (fun k_ hk_ => hk_.1)); have n1_ := Aside0.mk (Kd.R_reok rfl hy0 (fun k_ e_ => HO_7.out.1 k_ e_)); have n2_ := Aside0.mk (hb); clear HO_4; clear HO_7; clear HB; have HO_4 := n0_; have HO_7 := n1_; have HB := n2_; clear n0_ n1_ n2_; (try clear hb); (try clear hkp); (try clear hy0)) | ((with_reducible refine gate_callee (f := 21) rfl ?_); refine goesL_ (some 67) rfl rfl Try.func21 (by kernel_rfl) rfl #[.slice Ao69 t249.length co69, .int .i64 1] rfl (by (try simp only [List.map_toArray, List.map_cons, List.map_nil]); first | done | (rw [show t249.length = t236.length from (Kd.R_reads' HO_7.out).1.symm] <;> rfl) | rfl | (simp only [List.length_drop, List.length_take]; rfl)) ?_; (with_reducible refine (laws_heldNodeS.calls kj27 _ _ t249 1 t250 _ ?side1 ?side2 A44.out).mono ?_); (case side1 => repeat (first | exact (Kd.R_reads' HO_7.out).2.2 | (with_reducible refine Kd.C_alloc ?_ _) | (with_reducible refine Kd.C_drewN ?_ _) | (with_reducible refine Kd.C_drew ?_))); (case side2 => rw [show t249.length = t236.length from (Kd.R_reads' HO_7.out).1.symm]; exact (Kd.R_reads' HO_7.out).2.1); rintro e w' ⟨rfl, ⟨nd, rfl⟩⟩; refine ⟨_, rfl, ?_⟩))
                      go_ret
                      exact ⟨by first | rfl | (simp [errW_none, errW_some] <;> rfl) | (simp [*, errW_none, errW_some] <;> rfl), by repeat (first | (with_reducible first | exact HB.out | apply below_alloc | apply pw_below_drewN | apply below_drew1) | exact HB.out)⟩
          · replace c26 := Bool.eq_false_iff.mpr c26
            subst c26
            have H1 : (some false) = some r := by rw [if_neg (show ¬ (false = true) by decide)] at H; exact H
            clear H
            have H := H1
            clear H1
            obtain rfl := Option.some.inj H
            go_wp2_with (first | ((with_reducible refine gate_callee (f := 13) rfl ?_); refine goesL_ (some 43) rfl rfl Try.func13 (by kernel_rfl) rfl #[.slice A0 l0.length c0] rfl (by (try simp only [List.map_toArray, List.map_cons, List.map_nil]); first | done | rfl | (simp only [List.length_drop, List.length_take]; rfl)) ?_; (with_reducible refine (laws_toNodeS.calls kj7 _ _ l0 t241 _ ?side1 ?side2 A24.out).mono ?_); (case side1 => repeat (first | exact (Kd.C_below HR0.out HB.out) | (with_reducible refine Kd.C_alloc ?_ _) | (with_reducible refine Kd.C_drewN ?_ _) | (with_reducible refine Kd.C_drew ?_))); (case side2 => exact HC0.out); rintro e w71 ⟨v242, rfl, ho0, hb⟩; refine ⟨_, rfl, ?_⟩; have n0_ := Aside0.mk (Kd.R_elder' (by (with_reducible repeat (first | apply Kd.R_alloc | apply Kd.R_drewN | apply Kd.R_drew)); exact HO_4.out) (Kd.R_base ho0) hb); have n1_ := Aside0.mk (Kd.R_elder' (by (with_reducible repeat (first | apply Kd.R_alloc | apply Kd.R_drewN | apply Kd.R_drew)); exact HO_6.out) (Kd.R_base ho0) hb); have n2_ := Aside0.mk (Kd.R_elder' (by (with_reducible repeat (first | apply Kd.R_alloc | apply Kd.R_drewN | apply Kd.R_drew)); exact HO_7.out) (Kd.R_base ho0) hb); have n3_ := Aside0.mk (Kd.R_lower (Kd.R_new' (Kd.R_new' (Kd.R_new' ho0 (Kd.R_lt (by (with_reducible repeat (first | apply Kd.R_alloc | apply Kd.R_drewN | apply Kd.R_drew)); exact HO_4.out))) (Kd.R_lt (by (with_reducible repeat (first | apply Kd.R_alloc | apply Kd.R_drewN | apply Kd.R_drew)); exact HO_6.out))) (Kd.R_lt (by (with_reducible repeat (first | apply Kd.R_alloc | apply Kd.R_drewN | apply Kd.R_drew)); exact HO_7.out))) (below_size (by repeat (first | (with_reducible first | exact HB.out | apply below_alloc | apply pw_below_drewN | apply below_drew1) | exact HB.out)))); have n4_ := Aside0.mk (below_step (by repeat (first | (with_reducible first | exact HB.out | apply below_alloc | apply pw_below_drewN | apply below_drew1) | exact HB.out)) hb); clear HO_4; clear HO_6; clear HO_7; clear HB; have HO_4 := n0_; have HO_6 := n1_; have HO_7 := n2_; have HO243 := n3_; have HB := n4_; clear n0_ n1_ n2_ n3_ n4_; (try clear hb); (try clear hb2); (try clear hk); (try clear hi); (try clear ho0); obtain ⟨Ao72, co72, eo72⟩ := Kd.R_slice HO243.out; subst eo72) | ((with_reducible refine gate_callee (f := 15) rfl ?_); refine goesL_ (some 44) rfl rfl Try.func15 (by kernel_rfl) rfl #[.slice Ao13 t233.length co13, .slice Ao72 t241.length co72] rfl (by (try simp only [List.map_toArray, List.map_cons, List.map_nil]); first | done | rfl | (simp only [List.length_drop, List.length_take]; rfl)) ?_; (with_reducible refine (laws_eqNodeS.calls kj7 _ _ t233 _ _ t241 false _ ?side1 ?side2 ?side3 ?side4 A25.out).mono ?_); (case side1 => repeat (first | exact (Kd.R_reads' HO_6.out).2.2 | (with_reducible refine Kd.C_alloc ?_ _) | (with_reducible refine Kd.C_drewN ?_ _) | (with_reducible refine Kd.C_drew ?_))); (case side2 => exact (Kd.R_reads' HO_6.out).2.1); (case side3 => repeat (first | exact (Kd.R_reads' HO243.out).2.2 | (with_reducible refine Kd.C_alloc ?_ _) | (with_reducible refine Kd.C_drewN ?_ _) | (with_reducible refine Kd.C_drew ?_))); (case side4 => exact (Kd.R_reads' HO243.out).2.1); rintro e w73 ⟨rfl, hb⟩; refine ⟨_, rfl, ?_⟩; have n0_ := Aside0.mk (Kd.R_below (by (with_reducible repeat (first | apply Kd.R_alloc | apply Kd.R_drewN | apply Kd.R_drew)); exact HO_4.out) hb); have n1_ := Aside0.mk (Kd.R_below (by (with_reducible repeat (first | apply Kd.R_alloc | apply Kd.R_drewN | apply Kd.R_drew)); exact HO_6.out) hb); have n2_ := Aside0.mk (Kd.R_below (by (with_reducible repeat (first | apply Kd.R_alloc | apply Kd.R_drewN | apply Kd.R_drew)); exact HO_7.out) hb); have n3_ := Aside0.mk (Kd.R_below (by (with_reducible repeat (first | apply Kd.R_alloc | apply Kd.R_drewN | apply Kd.R_drew)); exact HO243.out) hb); have n4_ := Aside0.mk (below_step (by repeat (first | (with_reducible first | exact HB.out | apply below_alloc | apply pw_below_drewN | apply below_drew1) | exact HB.out)) hb); clear HO_4; clear HO_6; clear HO_7; clear HO243; clear HB; have HO_4 := n0_; have HO_6 := n1_; have HO_7 := n2_; have HO243 := n3_; have HB := n4_; clear n0_ n1_ n2_ n3_ n4_; (try clear hb); (try clear hb2); (try clear hk); (try clear hi)))
            go_ret
            exact ⟨by first | rfl | (simp [errW_none, errW_some] <;> rfl) | (simp [*, errW_none, errW_some] <;> rfl), by repeat (first | (with_reducible first | exact HB.out | apply below_alloc | apply pw_below_drewN | apply below_drew1) | exact HB.out)⟩

/-- THE ONE PURE STATEMENT of laws_FnExactLtlNot. -/
def laws_FnExactLtlNot.Pure : Prop := ∀ (l0 : List (S49)), l0.length ≤ 9223372036854775807 → (∀ x ∈ l0, ((Lit.int .i64 x.f0).wf = true ∧ (Lit.int .i64 x.f1).wf = true ∧ (Lit.int .i64 x.f2).wf = true)) → ∃ k, laws_FnExactLtlNot.f k l0 = some true

end Go.Proofs.Ytjnieoogddmmcaa.MFnExactLtlNot
