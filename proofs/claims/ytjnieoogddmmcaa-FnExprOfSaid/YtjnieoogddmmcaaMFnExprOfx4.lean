-- Written by a program of this session, out of Lean's print of the translation. Not trusted: Lean checks it.
import Derived.Test.YtjnieoogddmmcaaMFnExprOfx0
import Derived.Test.YtjnieoogddmmcaaMFnExprOfx1
import Derived.Test.YtjnieoogddmmcaaMFnExprOfx3
namespace Go.Proofs.Ytjnieoogddmmcaa.MFnExprOf
open Go.RowKit Go.Proofs.YtjnieoogddmmcaaW.PrintWords Go.Proofs.YtjnieoogddmmcaaW.PrintLast Go.Proofs.YtjnieoogddmmcaaW.PrintMore
attribute [local go_sem] max2_int min2_int max_two min_two max_three min_three max_four min_four   -- for this text's walks alone
set_option linter.unusedVariables false
set_option linter.unusedSimpArgs false

/-! ### impl_SetList: function 50 -/
def impl_SetList.l0 : Nat → Int → List Int → Int → Option (List Int)
  | 0, _, _, _ => none
  | k + 1, x0, x3, x8 => if x8 < 31 then ((impl_has.f x0 x8).bind fun t167 => (if t167 = true then (if x3.length < 17592186044416 then (impl_SetList.l0 k x0 (x3 ++ [x8]) (wrap64 (x8 + 1))) else (none)) else (impl_SetList.l0 k x0 x3 (wrap64 (x8 + 1))))) else (some x3)
def impl_SetList.f (k : Nat) (a0 : Int) : Option (List Int) := (impl_SetOk.f a0).bind fun t166 => (if t166 = true then (impl_SetList.l0 k a0 ([] : List Int) 0) else (some ([] : List Int)))
theorem impl_SetList.mono_l : ∀ k, (∀ y0 y1 y2, LeO (impl_SetList.l0 k y0 y1 y2) (impl_SetList.l0 (k + 1) y0 y1 y2))
  | 0 => fun _ _ _ r h => by simp [impl_SetList.l0] at h
  | k + 1 => by
    have ih0 := impl_SetList.mono_l k
    · intro y0 y1 y2
      unfold impl_SetList.l0
      repeat' first
      | (with_reducible exact ih0 _ _ _)
      | (with_reducible exact LeO.refl _)
      | (with_reducible exact LeO.none _)
      | (with_reducible refine LeO.ite ?_ ?_)
      | (with_reducible refine LeO.bind ?_ (fun _ => ?_))
      | exact ih0 _ _ _
      | exact LeO.none _
      | refine LeO.ite ?_ ?_
      | refine LeO.bind ?_ (fun _ => ?_)
theorem impl_SetList.mono : ∀ a0 k, LeO (impl_SetList.f k a0) (impl_SetList.f (k + 1) a0) := by
  intro a0 k
  have ih0 := impl_SetList.mono_l k
  unfold impl_SetList.f
  repeat' first
      | (with_reducible exact ih0 _ _ _)
      | (with_reducible exact LeO.refl _)
      | (with_reducible exact LeO.none _)
      | (with_reducible refine LeO.ite ?_ ?_)
      | (with_reducible refine LeO.bind ?_ (fun _ => ?_))
      | exact ih0 _ _ _
      | exact LeO.none _
      | refine LeO.ite ?_ ?_
      | refine LeO.bind ?_ (fun _ => ?_)
set_option maxHeartbeats 8000000 in
set_option maxRecDepth 100000 in
theorem impl_SetList.calls (k : Nat) (a0 : Int) (r : List Int) (w : World) (h : impl_SetList.f k a0 = some r) :
    Calls Try.prog 50 #[.int .i64 a0] w fun e w' => ∃ v0_ : Value, e = .returned (v0_) ∧ Kd.R (Kd.int .i64) 3 w' w.heap.size (fun _ => True) v0_ r ∧ Below w.heap.size w w' := by
  have HB := Aside0.mk (Below.refl w.heap.size w)
  have H : ((impl_SetOk.f a0).bind fun t166 => (if t166 = true then (impl_SetList.l0 k a0 ([] : List Int) 0) else (some ([] : List Int)))) = some r := h
  clear h
  replace H := Option.bind_eq_some_iff.mp H
  obtain ⟨t166, A20, H⟩ := H
  replace H : (if t166 = true then (impl_SetList.l0 k a0 ([] : List Int) 0) else (some ([] : List Int))) = some r := H
  have A2 := Aside0.mk A20
  clear A20
  by_cases c3 : t166 = true
  · subst c3
    have H1 : (impl_SetList.l0 k a0 ([] : List Int) 0) = some r := by rw [if_pos rfl] at H; exact H
    clear H
    have H := H1
    clear H1
    have H' := Aside0.mk H
    clear H
    go_enter Try.func50, Try.ntmps50
    go_wp2_with (first | ((with_reducible refine gate_callee (f := 48) rfl ?_); refine goesL_ (some 6) rfl rfl Try.func48 (by kernel_rfl) rfl #[.int .i64 a0] rfl (by (try simp only [List.map_toArray, List.map_cons, List.map_nil]); first | done | rfl | (simp only [List.length_drop, List.length_take]; rfl)) ?_; (with_reducible refine (impl_SetOk.calls a0 true _ A2.out).mono ?_); rintro e w' ⟨rfl, ⟨nd, rfl⟩⟩; refine ⟨_, rfl, ?_⟩))
    go_loopg [3, 8] k (fun kq v3 v8 w' => ∃ (x3_1 : List Int) (x8_1 : Int), v8 = .int .i64 x8_1 ∧ Aside0 (impl_SetList.l0 kq a0 x3_1 x8_1 = some r) ∧ Aside0 (kq ≤ k) ∧ Aside0 (Kd.R (Kd.int .i64) 3 w' w.heap.size (fun _ => True) v3 x3_1) ∧ Aside0 (Below w.heap.size w w'))
    case atStart => exact ⟨(([] : List Int)), (0), (by first | rfl | (simp; done) | (simp [*]; done) | (rw [Int.tmod_eq_emod_of_nonneg (Int.natCast_nonneg _)]; done)), H', ⟨Nat.le_refl _⟩, ⟨by first | exact Kd.R_nil _ _ _ _ _ | exact Kd.N_nil _ _ _ _ _ | exact Kd.V_nil _ _ _ _ _ | exact Kd.Q_nil _ _ _ _ _ | exact Kd.S_nil _ _ _ _ _⟩, ⟨by repeat (first | (with_reducible first | exact HB.out | apply below_alloc | apply pw_below_drewN | apply below_drew1) | exact HB.out)⟩⟩
    case round =>
      clear H'
      try clear p2
      try clear c3
      obtain ⟨x3_1, x8_1, rfl, HA, HK1, HO_3, HB⟩ := hrel
      cases gk with
      | zero => exact absurd HA.out (by simp [impl_SetList.l0])
      | succ k1 =>
        have H := HA.out
        clear HA
        simp only [impl_SetList.l0] at H
        by_cases c4 : x8_1 < 31
        · rw [if_pos c4] at H
          have c4b0 : decide (x8_1 < 31) = true := decide_eq_true c4
          clear c4
          replace H := Option.bind_eq_some_iff.mp H
          obtain ⟨t167, A50, H⟩ := H
          replace H : (if t167 = true then (if x3_1.length < 17592186044416 then (impl_SetList.l0 k1 a0 (x3_1 ++ [x8_1]) (wrap64 (x8_1 + 1))) else (none)) else (impl_SetList.l0 k1 a0 x3_1 (wrap64 (x8_1 + 1)))) = some r := H
          have A5 := Aside0.mk A50
          clear A50
          by_cases c6 : t167 = true
          · subst c6
            have H1 : (if x3_1.length < 17592186044416 then (impl_SetList.l0 k1 a0 (x3_1 ++ [x8_1]) (wrap64 (x8_1 + 1))) else (none)) = some r := by rw [if_pos rfl] at H; exact H
            clear H
            have H := H1
            clear H1
            by_cases c7 : x3_1.length < 17592186044416
            · rw [if_pos c7] at H
              have LMc7 := Aside0.mk c7
              clear c7
              obtain ⟨y168, hy168⟩ : ∃ y_ : List Int, y_ = (x3_1 ++ [x8_1]) := ⟨_, rfl⟩
              replace H : (impl_SetList.l0 k1 a0 y168 (wrap64 (x8_1 + 1))) = some r := by first | (rw [hy168]; with_reducible exact H) | (have H2_ := (Option.bind_some _ _).symm.trans H; rw [hy168]; with_reducible exact H2_) | (have H2_ := (Option.bind_some _ _).symm.trans H; with_reducible exact H2_) | with_reducible exact H | (rw [hy168]; exact H) | exact H
              have Ny168 := Aside0.mk hy168
              clear hy168
              have H' := Aside0.mk H
              clear H
              go_wp2_with (first | ((with_reducible refine gate_callee (f := 69) rfl ?_); refine goesL_ (some 13) rfl rfl Try.func69 (by kernel_rfl) rfl #[.int .i64 a0, .int .i64 x8_1] rfl (by (try simp only [List.map_toArray, List.map_cons, List.map_nil]); first | done | rfl | (simp only [List.length_drop, List.length_take]; rfl)) ?_; (with_reducible refine (impl_has.calls a0 x8_1 true _ A5.out).mono ?_); rintro e w' ⟨rfl, ⟨nd, rfl⟩⟩; refine ⟨_, rfl, ?_⟩) | ((with_reducible refine gate_builtin (b := .append) (xs := #[.tmp 14, .tmp 16]) rfl ?_); at_builtin; refine Kd.R_append (Kd.int .i64) (w0 := w) w.heap.size rfl (.tmp 14) (.tmp 16) 42 3 (.int .i64 0) 8 rfl Try.underlying42 info3 rfl (by decide) (by omega) u3 x3_1 x8_1 [.int .i64 x8_1] (fun _ => True) (fun _ => False) rfl rfl ?aP (fun _ hk => hk.elim) ?aF ?aO ?aB ?aS ?aL ?_; (case aP => exact rfl); (case aB => exact (by repeat (first | (with_reducible first | exact HB.out | apply below_alloc | apply pw_below_drewN | apply below_drew1) | exact HB.out))); (case aF => exact (fun _ _ => trivial)); (case aO => exact (by (with_reducible repeat (first | apply Kd.R_alloc | apply Kd.R_drewN | apply Kd.R_drew)); exact HO_3.out)); (case aS => exact (below_size (by repeat (first | (with_reducible first | exact HB.out | apply below_alloc | apply pw_below_drewN | apply below_drew1) | exact HB.out)))); (case aL => have := LMc7.out; omega); intro v169 w8 ho hb hg hat; rw [← Ny168.out] at ho; have n0_ := Aside0.mk (hb); have n1_ := Aside0.mk (ho); clear HB; clear HO_3; have HB := n0_; have HO170 := n1_; clear n0_ n1_; clear ho hb hg hat))
              go_roundg k1
              case measure => have := HK1.out; omega
              case rel => exact ⟨(y168), (wrap64 (x8_1 + 1)), (by first | rfl | (simp; done) | (simp [*]; done) | (rw [Int.tmod_eq_emod_of_nonneg (Int.natCast_nonneg _)]; done)), H', ⟨by have := HK1.out; omega⟩, ⟨by (with_reducible repeat (first | apply Kd.R_alloc | apply Kd.R_drewN | apply Kd.R_drew)); exact HO170.out⟩, ⟨by repeat (first | (with_reducible first | exact HB.out | apply below_alloc | apply pw_below_drewN | apply below_drew1) | exact HB.out)⟩⟩
            · rw [if_neg c7] at H
              exact absurd H (by simp)
          · replace c6 := Bool.eq_false_iff.mpr c6
            subst c6
            have H1 : (impl_SetList.l0 k1 a0 x3_1 (wrap64 (x8_1 + 1))) = some r := by rw [if_neg (show ¬ (false = true) by decide)] at H; exact H
            clear H
            have H := H1
            clear H1
            have H' := Aside0.mk H
            clear H
            go_wp2_with (first | ((with_reducible refine gate_callee (f := 69) rfl ?_); refine goesL_ (some 13) rfl rfl Try.func69 (by kernel_rfl) rfl #[.int .i64 a0, .int .i64 x8_1] rfl (by (try simp only [List.map_toArray, List.map_cons, List.map_nil]); first | done | rfl | (simp only [List.length_drop, List.length_take]; rfl)) ?_; (with_reducible refine (impl_has.calls a0 x8_1 false _ A5.out).mono ?_); rintro e w' ⟨rfl, ⟨nd, rfl⟩⟩; refine ⟨_, rfl, ?_⟩))
            go_roundg k1
            case measure => have := HK1.out; omega
            case rel => exact ⟨(x3_1), (wrap64 (x8_1 + 1)), (by first | rfl | (simp; done) | (simp [*]; done) | (rw [Int.tmod_eq_emod_of_nonneg (Int.natCast_nonneg _)]; done)), H', ⟨by have := HK1.out; omega⟩, ⟨by (with_reducible repeat (first | apply Kd.R_alloc | apply Kd.R_drewN | apply Kd.R_drew)); exact HO_3.out⟩, ⟨by repeat (first | (with_reducible first | exact HB.out | apply below_alloc | apply pw_below_drewN | apply below_drew1) | exact HB.out)⟩⟩
        · rw [if_neg c4] at H
          have c4b0 : decide (x8_1 < 31) = false := decide_eq_false c4
          clear c4
          obtain rfl := Option.some.inj H
          go_wp2
          go_ret
          exact ⟨_, by first | rfl | (simp [errW_none, errW_some] <;> rfl) | (simp [*, errW_none, errW_some] <;> rfl), by (with_reducible repeat (first | apply Kd.R_alloc | apply Kd.R_drewN | apply Kd.R_drew)); exact HO_3.out, by repeat (first | (with_reducible first | exact HB.out | apply below_alloc | apply pw_below_drewN | apply below_drew1) | exact HB.out)⟩
  · replace c3 := Bool.eq_false_iff.mpr c3
    subst c3
    have H1 : (some ([] : List Int)) = some r := by rw [if_neg (show ¬ (false = true) by decide)] at H; exact H
    clear H
    have H := H1
    clear H1
    obtain rfl := Option.some.inj H
    go_enter Try.func50, Try.ntmps50
    go_wp2_with (first | ((with_reducible refine gate_callee (f := 48) rfl ?_); refine goesL_ (some 6) rfl rfl Try.func48 (by kernel_rfl) rfl #[.int .i64 a0] rfl (by (try simp only [List.map_toArray, List.map_cons, List.map_nil]); first | done | rfl | (simp only [List.length_drop, List.length_take]; rfl)) ?_; (with_reducible refine (impl_SetOk.calls a0 false _ A2.out).mono ?_); rintro e w' ⟨rfl, ⟨nd, rfl⟩⟩; refine ⟨_, rfl, ?_⟩))
    go_ret
    exact ⟨_, by first | rfl | (simp [errW_none, errW_some] <;> rfl) | (simp [*, errW_none, errW_some] <;> rfl), by first | exact Kd.R_nil _ _ _ _ _ | exact Kd.N_nil _ _ _ _ _ | exact Kd.V_nil _ _ _ _ _ | exact Kd.Q_nil _ _ _ _ _ | exact Kd.S_nil _ _ _ _ _, by repeat (first | (with_reducible first | exact HB.out | apply below_alloc | apply pw_below_drewN | apply below_drew1) | exact HB.out)⟩

-- NOT PRINTED: function 52 (impl_reader_two)

-- NOT PRINTED: function 59 (impl_reader_one)

-- NOT PRINTED: function 70 (impl_reader_leaf)

-- NOT PRINTED: function 51 (impl_reader_product)

/-! ### impl_ExprOf: function 19 -/
/-- What a letter's place adds: its sign, its opposite, and both joined. -/
def impl_ExprOf.stepL (b : Bool) (i : Nat) (xs : List S45) : List S45 :=
  let ys := xs ++ [⟨3, i, 0⟩]
  let zs := if b then ys else ys ++ [⟨4, (ys.length : Int) - 1, 0⟩]
  if 0 < i then zs ++ [⟨5, (xs.length : Int) - 1, (zs.length : Int) - 1⟩] else zs
def impl_ExprOf.prodO (m : Int) : Nat → List S45 → Option (List S45)
  | 0, xs => some xs
  | n + 1, xs => (impl_ExprOf.prodO m n xs).bind fun ys => (impl_has.f m (n : Int)).bind fun b => if ys.length < 100000 then some (impl_ExprOf.stepL b n ys) else none
theorem impl_ExprOf.prodO_le (m : Int) (xs : List S45) : ∀ (d n : Nat) (z : List S45), impl_ExprOf.prodO m (n + d) xs = some z → ∃ y, impl_ExprOf.prodO m n xs = some y
  | 0, _, z, h => ⟨z, h⟩
  | d + 1, n, z, h => by
    rw [show n + (d + 1) = (n + d) + 1 by omega, impl_ExprOf.prodO] at h
    obtain ⟨y, hy, _⟩ := Option.bind_eq_some_iff.1 h
    exact impl_ExprOf.prodO_le m xs d n y hy
def impl_ExprOf.sumO (p : Nat) (L : List Int) : Nat → Option (List S45)
  | 0 => some []
  | n + 1 => (impl_ExprOf.sumO p L n).bind fun xs => if xs.length < 100000 then ((impl_ExprOf.prodO (rd L (n : Int)) p xs).bind fun ys => if ys.length < 100000 then some (if 0 < n then ys ++ [⟨6, (xs.length : Int) - 1, (ys.length : Int) - 1⟩] else ys) else none) else none
theorem impl_ExprOf.sumO_le (p : Nat) (L : List Int) : ∀ (d n : Nat) (z : List S45), impl_ExprOf.sumO p L (n + d) = some z → ∃ y, impl_ExprOf.sumO p L n = some y
  | 0, _, z, h => ⟨z, h⟩
  | d + 1, n, z, h => by
    rw [show n + (d + 1) = (n + d) + 1 by omega, impl_ExprOf.sumO] at h
    obtain ⟨y, hy, _⟩ := Option.bind_eq_some_iff.1 h
    exact impl_ExprOf.sumO_le p L d n y hy
def impl_ExprOf.restO (k : Nat) (a0 : Int) (p : Nat) : Option (List S45 × Bool) := (impl_SetList.f k a0).bind fun L => (impl_ExprOf.sumO p L L.length).bind fun xs => if xs.length < 100000 then (if xs.length > 31 then some ([], false) else some (xs, true)) else none
def impl_ExprOf.f (k : Nat) (a0 : Int) (a1 : Int) : Option (List S45 × Bool) := (impl_isProps.f a1).bind fun b1 => if b1 = true then ((impl_SetOk.f a0).bind fun b2 => if b2 = true then ((impl_only.f a1).bind fun p1 => (impl_only.f p1).bind fun p2 => if a0 ≥ p2 then some ([], false) else if a0 = 0 then some ([⟨2, 0, 0⟩], true) else if a0 = wrap64 (p2 - 1) then some ([⟨1, 0, 0⟩], true) else if 0 ≤ a1 ∧ a1 < 1000 then impl_ExprOf.restO k a0 a1.toNat else none) else some ([], false)) else some ([], false)
theorem impl_ExprOf.mono : ∀ a0 a1 k, LeO (impl_ExprOf.f k a0 a1) (impl_ExprOf.f (k + 1) a0 a1) := by
  intro a0 a1 k
  unfold impl_ExprOf.f impl_ExprOf.restO
  repeat' first
    | exact impl_SetList.mono _ _
    | exact LeO.refl _
    | exact LeO.none _
    | refine LeO.ite ?_ ?_
    | refine LeO.bind ?_ (fun _ => ?_)
/-- A reader's block. -/
abbrev impl_ExprOf.cells (v : Value) : Array Value := #[.string ByteArray.empty, .int .i64 0, .int .i64 0, v, .nilFunc]
/-- A reader at block g, its list xs a row that was made behind the world u; what else was there then lies there still. -/
def impl_ExprOf.St (w0 u : World) (g : Nat) (w : World) (xs : List S45) : Prop :=
  ∃ A c, Kd.R k45 45 w u.heap.size (fun _ => True) (.slice A xs.length c) xs ∧ w.heap[g]? = some (.cells (impl_ExprOf.cells (.slice A xs.length c)) 59 (0, 0)) ∧ Below w0.heap.size w0 w ∧
    (∀ k, k < u.heap.size → k ≠ g → w.heap[k]? = u.heap[k]?) ∧ u.heap.size ≤ w.heap.size ∧ w0.heap.size ≤ g ∧ g < u.heap.size
theorem impl_ExprOf.St_drewN {w0 u w : World} {g : Nat} {xs : List S45} (h : impl_ExprOf.St w0 u g w xs) (n : Nat) : impl_ExprOf.St w0 u g (w.drewN n) xs := by
  obtain ⟨A, c, h1, h2, h3, h4, h5, h6, h7⟩ := h
  exact ⟨A, c, Kd.R_drewN h1 n, blk_drewN h2 n, pw_below_drewN h3 n, h4, h5, h6, h7⟩
/-- Behind an append, stored into the reader. -/
theorem impl_ExprOf.St_put {w0 u w w1 : World} {g : Nat} {xs : List S45} {A1 : Option Addr} {c1 : Nat} (x : S45) (h : impl_ExprOf.St w0 u g w xs) (ho : Kd.R k45 45 w1 u.heap.size (fun _ => True) (.slice A1 (xs.length + 1) c1) (xs ++ [x])) (hb : Below u.heap.size w w1) :
    impl_ExprOf.St w0 u g (w1.setCell ⟨g, 3, none⟩ (.slice A1 (xs.length + 1) c1)) (xs ++ [x]) := by
  obtain ⟨A, c, h1, h2, h3, h4, h5, h6, h7⟩ := h
  have hg1 : w1.heap[g]? = _ := (hb.block g h7).trans h2
  have hl : (xs ++ [x]).length = xs.length + 1 := by rw [List.length_append, List.length_singleton]
  refine ⟨A1, c1, ?_, ?_, ?_, fun k hk hne => ?_, ?_, h6, h7⟩
  · rw [hl]
    exact Kd.R_mono (Kd.R_far (p := ⟨g, 3, none⟩) (Kd.R_bound ho) (fun k hk => by have := hk.2.1; show k ≠ g; omega) _) (fun _ _ => trivial)
  · rw [hl]
    exact blk_put hg1 3 _ rfl
  · exact (below_weaken h3 (by omega) hb).setCell (p := ⟨g, 3, none⟩) h6 _
  · rw [Below.heap_setCell _ _ _ _ hne]
    exact (hb.block k hk).trans (h4 k hk hne)
  · have := hb.size
    simp only [World.setCell, Array.size_modify]
    omega
set_option maxHeartbeats 8000000 in
set_option maxRecDepth 100000 in
theorem impl_ExprOf.leaf (g : Nat) (kd a : Int) (xs : List S45) (w0 u w : World) (h : impl_ExprOf.St w0 u g w xs) (hlen : xs.length < 1000000) :
    Calls Try.prog 70 #[.pointer (some ⟨g, 0, none⟩), .int .i64 kd, .int .i64 a] w fun e w' => e = .returned (.tuple #[]) ∧ impl_ExprOf.St w0 u g w' (xs ++ [⟨kd, a, 0⟩]) := by
  have H := Aside0.mk h
  obtain ⟨A, c, ho, hBK, hB, hk, hs, h6, h7⟩ := h
  have hc3 : w.cell? ⟨g, 3, none⟩ = some (.slice A xs.length c) := blk_cell hBK 3
  have HO := Aside0.mk ho
  have HS := Aside0.mk hs
  have HBK := Aside0.mk hBK
  have H7 := Aside0.mk h7
  clear ho hBK hB hk hs h6 h7
  go_enter Try.func70, Try.ntmps70
  go_wp2_with (at_builtin; refine Kd.R_append k45 (w0 := w) u.heap.size rfl (.tmp 10) (.tmp 14) 25 45 (.agg #[(.int .i64 0), (.int .i64 0), (.int .i64 0)]) 24 rfl Try.underlying25 info45 rfl (by decide) (by omega) (.slice A xs.length c) xs (⟨kd, a, 0⟩ : S45) [.int .i64 kd, .int .i64 a, .int .i64 0] (fun _ => True) (fun _ => False) rfl (by first | (go_simp; done) | (go_simp; rfl)) (k45_mkM _ _ _ (⟨kd, a, 0⟩ : S45)) (fun _ hk => hk.elim) (fun _ _ => trivial) HO.out (Below.refl _ _) HS.out (by omega) ?_; intro v1 w1 ho1 hb1 hg1 _; obtain ⟨A1, c1, e1⟩ := Kd.R_slice ho1; rw [List.length_append, List.length_singleton] at e1; subst e1; have hbk1 : w1.heap[g]? = _ := (hb1.block g H7.out).trans HBK.out; have hc4 : w1.cell? ⟨g, 3, none⟩ = some (.slice A xs.length c) := blk_cell hbk1 3; have hf4 := blk_frozen hbk1 3; have HO1 := Aside0.mk ho1; have HB1 := Aside0.mk hb1; clear ho1 hb1 hg1 hbk1)
  go_end0
  exact ⟨rfl, impl_ExprOf.St_put _ H.out HO1.out HB1.out⟩
set_option maxHeartbeats 8000000 in
set_option maxRecDepth 100000 in
theorem impl_ExprOf.one (g : Nat) (kd : Int) (xs : List S45) (w0 u w : World) (h : impl_ExprOf.St w0 u g w xs) (hlen : xs.length < 1000000) :
    Calls Try.prog 59 #[.pointer (some ⟨g, 0, none⟩), .int .i64 kd] w fun e w' => e = .returned (.tuple #[]) ∧ impl_ExprOf.St w0 u g w' (xs ++ [⟨kd, (xs.length : Int) - 1, 0⟩]) := by
  have H := Aside0.mk (impl_ExprOf.St_drewN h 1)
  obtain ⟨A, c, ho, hBK, hB, hk, hs, h6, h7⟩ := h
  have hw1 : IntKind.i64.wrap ((xs.length : Int) - 1) = (xs.length : Int) - 1 := by rw [IntKind.wrap_i64]; omega
  have hg : g < w.heap.size := (Array.getElem?_eq_some_iff.1 hBK).1
  have hc3w : w.cell? ⟨g, 3, none⟩ = some (.slice A xs.length c) := blk_cell hBK 3
  have hc3 : w.drew.cell? ⟨g, 3, none⟩ = some (.slice A xs.length c) := blk_cell (blk_drew hBK) 3
  have hf3 : w.drew.frozen? ⟨g, 3, none⟩ = false := blk_frozen (blk_drew hBK) 3
  have HO := Aside0.mk (Kd.R_drew ho)
  have HS := Aside0.mk hs
  have HBK := Aside0.mk (blk_drew hBK)
  have H7 := Aside0.mk h7
  clear ho hBK hB hk hs h6 h7
  go_enter Try.func59, Try.ntmps59
  go_region_law (refine Kd.R_append_step k45 (w0 := w.drew) u.heap.size (by simp [Region.wanted]) (.tmp 8) (.tmp 17) 25 45 (.agg #[(.int .i64 0), (.int .i64 0), (.int .i64 0)]) 24 rfl Try.underlying25 info45 rfl (by decide) (by omega) (.slice A xs.length c) xs (⟨kd, (xs.length : Int) - 1, 0⟩ : S45) [.int .i64 kd, .int .i64 ((xs.length : Int) - 1), .int .i64 0] (fun _ => True) (fun _ => False) (by simp [Act.eval, Act.put]) (by simp [Act.eval, Act.put]) (k45_mkM _ _ _ (⟨kd, (xs.length : Int) - 1, 0⟩ : S45)) (fun _ hk => hk.elim) (fun _ _ => trivial) HO.out (Below.refl _ _) HS.out (by omega) ?_; intro v1 w1 ho1 hb1 hg1 _; obtain ⟨A1, c1, e1⟩ := Kd.R_slice ho1; rw [List.length_append, List.length_singleton] at e1; subst e1; have hbk1 : w1.heap[g]? = _ := (hb1.block g H7.out).trans HBK.out; have hc4 : w1.cell? ⟨g, 3, none⟩ = some (.slice A xs.length c) := blk_cell hbk1 3; have hf4 := blk_frozen hbk1 3; have HO1 := Aside0.mk ho1; have HB1 := Aside0.mk hb1; clear ho1 hb1 hg1 hbk1)
  all_goals go_end0
  all_goals exact ⟨rfl, impl_ExprOf.St_put _ H.out HO1.out HB1.out⟩
set_option maxHeartbeats 8000000 in
set_option maxRecDepth 100000 in
theorem impl_ExprOf.two (g : Nat) (kd a : Int) (xs : List S45) (w0 u w : World) (h : impl_ExprOf.St w0 u g w xs) (hlen : xs.length < 1000000) :
    Calls Try.prog 52 #[.pointer (some ⟨g, 0, none⟩), .int .i64 kd, .int .i64 a] w fun e w' => e = .returned (.tuple #[]) ∧ impl_ExprOf.St w0 u g w' (xs ++ [⟨kd, a, (xs.length : Int) - 1⟩]) := by
  have H := Aside0.mk (impl_ExprOf.St_drewN h 1)
  obtain ⟨A, c, ho, hBK, hB, hk, hs, h6, h7⟩ := h
  have hw1 : IntKind.i64.wrap ((xs.length : Int) - 1) = (xs.length : Int) - 1 := by rw [IntKind.wrap_i64]; omega
  have hg : g < w.heap.size := (Array.getElem?_eq_some_iff.1 hBK).1
  have hc3w : w.cell? ⟨g, 3, none⟩ = some (.slice A xs.length c) := blk_cell hBK 3
  have hc3 : w.drew.cell? ⟨g, 3, none⟩ = some (.slice A xs.length c) := blk_cell (blk_drew hBK) 3
  have hf3 : w.drew.frozen? ⟨g, 3, none⟩ = false := blk_frozen (blk_drew hBK) 3
  have HO := Aside0.mk (Kd.R_drew ho)
  have HS := Aside0.mk hs
  have HBK := Aside0.mk (blk_drew hBK)
  have H7 := Aside0.mk h7
  clear ho hBK hB hk hs h6 h7
  go_enter Try.func52, Try.ntmps52
  go_region_law (refine Kd.R_append_step k45 (w0 := w.drew) u.heap.size (by simp [Region.wanted]) (.tmp 10) (.tmp 20) 25 45 (.agg #[(.int .i64 0), (.int .i64 0), (.int .i64 0)]) 24 rfl Try.underlying25 info45 rfl (by decide) (by omega) (.slice A xs.length c) xs (⟨kd, a, (xs.length : Int) - 1⟩ : S45) [.int .i64 kd, .int .i64 a, .int .i64 ((xs.length : Int) - 1)] (fun _ => True) (fun _ => False) (by simp [Act.eval, Act.put]) (by simp [Act.eval, Act.put]) (k45_mkM _ _ _ (⟨kd, a, (xs.length : Int) - 1⟩ : S45)) (fun _ hk => hk.elim) (fun _ _ => trivial) HO.out (Below.refl _ _) HS.out (by omega) ?_; intro v1 w1 ho1 hb1 hg1 _; obtain ⟨A1, c1, e1⟩ := Kd.R_slice ho1; rw [List.length_append, List.length_singleton] at e1; subst e1; have hbk1 : w1.heap[g]? = _ := (hb1.block g H7.out).trans HBK.out; have hc4 : w1.cell? ⟨g, 3, none⟩ = some (.slice A xs.length c) := blk_cell hbk1 3; have hf4 := blk_frozen hbk1 3; have HO1 := Aside0.mk ho1; have HB1 := Aside0.mk hb1; clear ho1 hb1 hg1 hbk1)
  all_goals go_end0
  all_goals exact ⟨rfl, impl_ExprOf.St_put _ H.out HO1.out HB1.out⟩
theorem impl_ExprOf.St_cell {w0 u w : World} {g : Nat} {xs : List S45} (h : impl_ExprOf.St w0 u g w xs) : ∃ A c, w.cell? ⟨g, 3, none⟩ = some (.slice A xs.length c) := by
  obtain ⟨A, c, _, hBK, _⟩ := h
  exact ⟨A, c, blk_cell hBK 3⟩
set_option maxHeartbeats 16000000 in
set_option maxRecDepth 100000 in
theorem impl_ExprOf.product (g : Nat) (m : Int) (n : Nat) (hn : n < 1000) (xs zs : List S45) (w0 u w : World) (h : impl_ExprOf.St w0 u g w xs) (hz : impl_ExprOf.prodO m n xs = some zs) :
    Calls Try.prog 51 #[.pointer (some ⟨g, 0, none⟩), .int .i64 m, .int .i64 (n : Int)] w fun e w' => e = .returned (.tuple #[]) ∧ impl_ExprOf.St w0 u g w' zs := by
  have H := Aside0.mk h
  have HZ := Aside0.mk hz
  clear h hz
  go_enter Try.func51, Try.ntmps51
  go_wp2
  go_loopw [9] (fun i wr => ∃ (q : Nat) (ys : List S45), q ≤ n ∧ i = .int .i64 (q : Int) ∧ impl_ExprOf.prodO m q xs = some ys ∧ impl_ExprOf.St w0 u g wr ys) (fun i _ => n - (intOf i).toNat)
  case atStart => exact ⟨0, xs, Nat.zero_le _, rfl, rfl, H.out⟩
  case round =>
    obtain ⟨q, ys, hq, rfl, hys, hst⟩ := hrel
    by_cases hlt : q < n
    · have hlb : decide ((q : Int) < (n : Int)) = true := decide_eq_true (by omega)
      obtain ⟨y', hy'⟩ := impl_ExprOf.prodO_le m xs (n - (q + 1)) (q + 1) zs (by rw [show q + 1 + (n - (q + 1)) = n by omega]; exact HZ.out)
      have hy'' := hy'
      rw [impl_ExprOf.prodO, hys, Option.bind_some] at hy''
      obtain ⟨b, hb, hy2⟩ := Option.bind_eq_some_iff.1 hy''
      by_cases hlen : ys.length < 100000
      · rw [if_pos hlen] at hy2
        obtain rfl := Option.some.inj hy2
        obtain ⟨A, c, hc⟩ := impl_ExprOf.St_cell hst
        have hw1 : IntKind.i64.wrap ((ys.length : Int) - 1) = (ys.length : Int) - 1 := by rw [IntKind.wrap_i64]; omega
        have hw2 : IntKind.i64.wrap ((q : Int) + 1) = (q : Int) + 1 := by rw [IntKind.wrap_i64]; omega
        have HB := Aside0.mk hb
        have HST := Aside0.mk hst
        have HY := Aside0.mk hy'
        have HL := Aside0.mk hlen
        clear hb hst hy' hlen hys hy'' hy2
        by_cases h0 : 0 < q
        · have h0b : decide ((0 : Int) < (q : Int)) = true := decide_eq_true (by omega)
          cases b
          · go_wp2_with (first
              | (go_at_call 70; refine (impl_ExprOf.leaf g 3 (q : Int) ys w0 u _ HST.out (by have := HL.out; omega)).mono ?_; rintro e w1 ⟨rfl, st1⟩; have ST1 := Aside0.mk st1; clear st1)
              | (go_at_call 69; refine (impl_has.calls m (q : Int) false _ HB.out).mono ?_; rintro e w2 ⟨rfl, ⟨nd, rfl⟩⟩; have ST2 := Aside0.mk (impl_ExprOf.St_drewN ST1.out nd))
              | (go_at_call 59; refine (impl_ExprOf.one g 4 _ w0 u _ ST2.out (by have := HL.out; simp; omega)).mono ?_; rintro e w3 ⟨rfl, st3⟩; have ST3 := Aside0.mk st3; clear st3)
              | (go_at_call 52; refine (impl_ExprOf.two g 5 ((ys.length : Int) - 1) _ w0 u _ ST3.out (by have := HL.out; simp; omega)).mono ?_; rintro e w4 ⟨rfl, st4⟩; have ST4 := Aside0.mk st4; clear st4))
            go_roundw
            case measure => simp [intOf]; omega
            case rel => exact ⟨q + 1, _, by omega, by rw [Int.natCast_add]; rfl, HY.out, by unfold impl_ExprOf.stepL; rw [if_pos h0]; exact ST4.out⟩
          · go_wp2_with (first
              | (go_at_call 70; refine (impl_ExprOf.leaf g 3 (q : Int) ys w0 u _ HST.out (by have := HL.out; omega)).mono ?_; rintro e w1 ⟨rfl, st1⟩; have ST1 := Aside0.mk st1; clear st1)
              | (go_at_call 69; refine (impl_has.calls m (q : Int) true _ HB.out).mono ?_; rintro e w2 ⟨rfl, ⟨nd, rfl⟩⟩; have ST2 := Aside0.mk (impl_ExprOf.St_drewN ST1.out nd))
              | (go_at_call 52; refine (impl_ExprOf.two g 5 ((ys.length : Int) - 1) _ w0 u _ ST2.out (by have := HL.out; simp; omega)).mono ?_; rintro e w4 ⟨rfl, st4⟩; have ST4 := Aside0.mk st4; clear st4))
            go_roundw
            case measure => simp [intOf]; omega
            case rel => exact ⟨q + 1, _, by omega, by rw [Int.natCast_add]; rfl, HY.out, by unfold impl_ExprOf.stepL; rw [if_pos h0]; exact ST4.out⟩
        · have h0b : decide ((0 : Int) < (q : Int)) = false := decide_eq_false (by omega)
          cases b
          · go_wp2_with (first
              | (go_at_call 70; refine (impl_ExprOf.leaf g 3 (q : Int) ys w0 u _ HST.out (by have := HL.out; omega)).mono ?_; rintro e w1 ⟨rfl, st1⟩; have ST1 := Aside0.mk st1; clear st1)
              | (go_at_call 69; refine (impl_has.calls m (q : Int) false _ HB.out).mono ?_; rintro e w2 ⟨rfl, ⟨nd, rfl⟩⟩; have ST2 := Aside0.mk (impl_ExprOf.St_drewN ST1.out nd))
              | (go_at_call 59; refine (impl_ExprOf.one g 4 _ w0 u _ ST2.out (by have := HL.out; simp; omega)).mono ?_; rintro e w3 ⟨rfl, st3⟩; have ST3 := Aside0.mk st3; clear st3))
            go_roundw
            case measure => simp [intOf]; omega
            case rel => exact ⟨q + 1, _, by omega, by rw [Int.natCast_add]; rfl, HY.out, by unfold impl_ExprOf.stepL; rw [if_neg h0]; exact ST3.out⟩
          · go_wp2_with (first
              | (go_at_call 70; refine (impl_ExprOf.leaf g 3 (q : Int) ys w0 u _ HST.out (by have := HL.out; omega)).mono ?_; rintro e w1 ⟨rfl, st1⟩; have ST1 := Aside0.mk st1; clear st1)
              | (go_at_call 69; refine (impl_has.calls m (q : Int) true _ HB.out).mono ?_; rintro e w2 ⟨rfl, ⟨nd, rfl⟩⟩; have ST2 := Aside0.mk (impl_ExprOf.St_drewN ST1.out nd)))
            go_roundw
            case measure => simp [intOf]; omega
            case rel => exact ⟨q + 1, _, by omega, by rw [Int.natCast_add]; rfl, HY.out, by unfold impl_ExprOf.stepL; rw [if_neg h0]; exact ST2.out⟩
      · rw [if_neg hlen] at hy2
        cases hy2
    · have hlb : decide ((q : Int) < (n : Int)) = false := decide_eq_false (by omega)
      have hqe : q = n := by omega
      subst hqe
      obtain rfl : ys = zs := Option.some.inj (hys.symm.trans HZ.out)
      have HST := Aside0.mk hst
      clear hst hys
      go_wp2
      go_end0
      exact ⟨rfl, HST.out⟩
set_option maxHeartbeats 16000000 in
set_option maxRecDepth 100000 in
theorem impl_ExprOf.rest (k : Nat) (a0 : Int) (p : Nat) (hp : p < 1000) (p1 p2 : Int) (r0 : List S45) (r1 : Bool) (w : World) (hP : impl_isProps.f (p : Int) = some true) (hS : impl_SetOk.f a0 = some true) (h1 : impl_only.f (p : Int) = some p1) (h2 : impl_only.f p1 = some p2)
    (hlt : ¬ a0 ≥ p2) (hne0 : ¬ a0 = 0) (hne1 : ¬ a0 = wrap64 (p2 - 1)) (h : impl_ExprOf.restO k a0 p = some (r0, r1)) :
    Calls Try.prog 19 #[.int .i64 a0, .int .i64 (p : Int)] w fun e w' => ∃ v0_ : Value, e = .returned (.tuple #[v0_, .bool r1]) ∧ Kd.R k45 45 w' w.heap.size (fun _ => True) v0_ r0 ∧ Below w.heap.size w w' := by
  have hgeb : decide (p2 ≤ a0) = false := decide_eq_false (by omega)
  have he0 : (a0 == 0) = false := beq_eq_false_iff_ne.mpr hne0
  have he1 : (a0 == wrap64 (p2 - 1)) = false := beq_eq_false_iff_ne.mpr hne1
  unfold impl_ExprOf.restO at h
  obtain ⟨L, hL, h⟩ := Option.bind_eq_some_iff.1 h
  obtain ⟨xs, hxs, h⟩ := Option.bind_eq_some_iff.1 h
  by_cases hxl : xs.length < 100000
  · rw [if_pos hxl] at h
    have A1 := Aside0.mk hP
    have A2 := Aside0.mk hS
    have A3 := Aside0.mk h1
    have A4 := Aside0.mk h2
    have A5 := Aside0.mk hL
    have A6 := Aside0.mk hxs
    have A7 := Aside0.mk h
    have A8 := Aside0.mk hp
    have HB := Aside0.mk (Below.refl w.heap.size w)
    clear hP hS h1 h2 hL hxs h hp hlt hne0 hne1
    go_enter Try.func19, Try.ntmps19
    go_wp2_with (first
      | (go_at_call 47; (with_reducible refine (impl_isProps.calls (p : Int) true _ A1.out).mono ?_); rintro e w' ⟨rfl, ⟨nd, rfl⟩⟩)
      | (go_at_call 48; (with_reducible refine (impl_SetOk.calls a0 true _ A2.out).mono ?_); rintro e w' ⟨rfl, ⟨nd, rfl⟩⟩)
      | (go_at_call 49; (with_reducible refine (impl_only.calls (p : Int) p1 _ A3.out).mono ?_); rintro e w' ⟨rfl, ⟨nd, rfl⟩⟩)
      | (go_at_call 49; (with_reducible refine (impl_only.calls p1 p2 _ A4.out).mono ?_); rintro e w' ⟨rfl, ⟨nd, rfl⟩⟩)
      | ((with_reducible refine gate_dst (N := 39) rfl ?_); refine box_event ?hg (N := 39) ?hd (cs := impl_ExprOf.cells (.slice none 0 0)) (t := 59) ?hr ?_; (case hd => rfl); (case hg => rfl); (case hr => first | (go_simp; done) | (go_simp; rfl)); intro gb hg w7 hbox hb; have hgl : gb < w7.heap.size := (Array.getElem?_eq_some_iff.1 hbox).1; have hgb : w.heap.size ≤ gb := (by rw [hg]; exact below_size (by repeat (first | (with_reducible first | exact HB.out | apply pw_below_drewN) | exact HB.out))); replace HB := Aside0.mk (below_step (by repeat (first | (with_reducible first | exact HB.out | apply pw_below_drewN) | exact HB.out)) hb); have HBK := Aside0.mk hbox; have HGL := Aside0.mk hgl; have HGB := Aside0.mk hgb; clear hg hbox hb hgl hgb)
      | (go_at_call 50; (with_reducible refine (impl_SetList.calls k a0 L _ A5.out).mono ?_); rintro e u ⟨vL, rfl, hoL, hbL⟩; obtain ⟨AL, cL, eL⟩ := Kd.R_slice hoL; subst eL; have ST0 : Aside0 (impl_ExprOf.St w u gb u []) := ⟨⟨none, 0, Kd.R_nil _ _ _ _ _, (hbL.block gb HGL.out).trans HBK.out, below_step HB.out hbL, fun _ _ _ => rfl, Nat.le_refl _, HGB.out, Nat.lt_of_lt_of_le HGL.out hbL.size⟩⟩; have HOL := Aside0.mk hoL; clear hoL hbL))
    go_loopw [43] (fun i wr => ∃ (q : Nat) (ys : List S45), q ≤ L.length ∧ i = .int .i64 (q : Int) ∧ impl_ExprOf.sumO p L q = some ys ∧ impl_ExprOf.St w u gb wr ys) (fun i _ => L.length - (intOf i).toNat)
    case atStart => exact ⟨0, [], Nat.zero_le _, rfl, rfl, ST0.out⟩
    case round =>
      obtain ⟨q, ys, hq, rfl, hys, hst⟩ := hrel
      by_cases hlt : q < L.length
      · have hlb : decide ((q : Int) < (L.length : Int)) = true := decide_eq_true (by omega)
        obtain ⟨y', hy'⟩ := impl_ExprOf.sumO_le p L (L.length - (q + 1)) (q + 1) xs (by rw [show q + 1 + (L.length - (q + 1)) = L.length by omega]; exact A6.out)
        have hy'' := hy'
        rw [impl_ExprOf.sumO, hys, Option.bind_some] at hy''
        by_cases hlen : ys.length < 100000
        · rw [if_pos hlen] at hy''
          obtain ⟨zs, hzs, hy2⟩ := Option.bind_eq_some_iff.1 hy''
          by_cases hlen2 : zs.length < 100000
          · rw [if_pos hlen2] at hy2
            obtain rfl := Option.some.inj hy2
            obtain ⟨A, c, hc⟩ := impl_ExprOf.St_cell hst
            have hrow : Kd.R (Kd.int .i64) 3 wr w7.heap.size (fun _ => True) (.slice AL L.length cL) L := by
              obtain ⟨_, _, _, _, _, hfr, _, _, _⟩ := hst
              exact Kd.R_mono (Kd.R_step (Kd.R_bound HOL.out) (fun k hk hlt => hfr k hlt (by have := hk.2.1; have := HGL.out; omega))) (fun _ _ => trivial)
            obtain ⟨ad, e0_, hcell⟩ := Kd.at_int (Kd.R_reads' hrow).2.2 (q : Int) (by omega) (by omega)
            subst e0_
            rw [Int.toNat_natCast] at hcell
            have hw1 : IntKind.i64.wrap ((ys.length : Int) - 1) = (ys.length : Int) - 1 := by rw [IntKind.wrap_i64]; omega
            have hL63 : L.length ≤ 9223372036854775807 := (Kd.R_reads' hrow).2.2.2.1
            have hw2 : IntKind.i64.wrap ((q : Int) + 1) = (q : Int) + 1 := by rw [IntKind.wrap_i64]; omega
            obtain ⟨x, hx⟩ : ∃ x, x = rd L (q : Int) := ⟨_, rfl⟩
            rw [← hx] at hcell hzs
            have HST := Aside0.mk hst
            have HY := Aside0.mk hy'
            have HZS := Aside0.mk hzs
            have HL := Aside0.mk hlen
            have HL2 := Aside0.mk hlen2
            clear hst hy' hlen hlen2 hys hy'' hy2 hrow hx hzs
            by_cases h0 : 0 < q
            · have h0b : decide ((0 : Int) < (q : Int)) = true := decide_eq_true (by omega)
              go_wp2_with (first
                | (go_at_call 51; refine (impl_ExprOf.product gb x p A8.out ys zs w u _ HST.out HZS.out).mono ?_; rintro e w1 ⟨rfl, st1⟩; have ST1 := Aside0.mk st1; clear st1)
                | (go_at_call 52; refine (impl_ExprOf.two gb 6 ((ys.length : Int) - 1) zs w u _ ST1.out (by have := HL2.out; omega)).mono ?_; rintro e w4 ⟨rfl, st4⟩; have ST4 := Aside0.mk st4; clear st4))
              go_roundw
              case measure => simp [intOf]; omega
              case rel => exact ⟨q + 1, _, by omega, by rw [Int.natCast_add]; rfl, HY.out, by rw [if_pos h0]; exact ST4.out⟩
            · have h0b : decide ((0 : Int) < (q : Int)) = false := decide_eq_false (by omega)
              go_wp2_with (go_at_call 51; refine (impl_ExprOf.product gb x p A8.out ys zs w u _ HST.out HZS.out).mono ?_; rintro e w1 ⟨rfl, st1⟩; have ST1 := Aside0.mk st1; clear st1)
              go_roundw
              case measure => simp [intOf]; omega
              case rel => exact ⟨q + 1, _, by omega, by rw [Int.natCast_add]; rfl, HY.out, by rw [if_neg h0]; exact ST1.out⟩
          · rw [if_neg hlen2] at hy2
            cases hy2
        · rw [if_neg hlen] at hy''
          cases hy''
      · have hlb : decide ((q : Int) < (L.length : Int)) = false := decide_eq_false (by omega)
        have hqe : q = L.length := by omega
        subst hqe
        obtain rfl : ys = xs := Option.some.inj (hys.symm.trans A6.out)
        obtain ⟨A, c, ho, hbk, hb, _, _, h6, h7⟩ := hst
        have hc3 : wr.cell? ⟨gb, 3, none⟩ = some (.slice A ys.length c) := blk_cell hbk 3
        have HO := Aside0.mk (Kd.R_lower ho (base' := w.heap.size) (by omega))
        have HBW := Aside0.mk hb
        have h7' := A7.out
        clear ho hbk hb hys hlt
        by_cases h31 : ys.length > 31
        · rw [if_pos h31] at h7'
          simp only [Option.some.injEq, Prod.mk.injEq] at h7'
          obtain ⟨rfl, rfl⟩ := h7'
          have hgb1 : decide ((31 : Int) < (ys.length : Int)) = true := decide_eq_true (by omega)
          have hgb2 : decide (31 < ys.length) = true := decide_eq_true h31
          clear h31
          go_wp2
          go_ret2
          exact ⟨_, rfl, Kd.R_nil _ _ _ _ _, HBW.out⟩
        · rw [if_neg h31] at h7'
          simp only [Option.some.injEq, Prod.mk.injEq] at h7'
          obtain ⟨rfl, rfl⟩ := h7'
          have hgb1 : decide ((31 : Int) < (ys.length : Int)) = false := decide_eq_false (by omega)
          have hgb2 : decide (31 < ys.length) = false := decide_eq_false h31
          clear h31
          go_wp2
          go_ret2
          exact ⟨_, rfl, HO.out, HBW.out⟩
  · rw [if_neg hxl] at h
    cases h
set_option maxHeartbeats 16000000 in
set_option maxRecDepth 100000 in
theorem impl_ExprOf.calls (k : Nat) (a0 : Int) (a1 : Int) (r0 : List S45) (r1 : Bool) (w : World) (h : impl_ExprOf.f k a0 a1 = some (r0, r1)) :
    Calls Try.prog 19 #[.int .i64 a0, .int .i64 a1] w fun e w' => ∃ v0_ : Value, e = .returned (.tuple #[v0_, .bool r1]) ∧ Kd.R k45 45 w' w.heap.size (fun _ => True) v0_ r0 ∧ Below w.heap.size w w' := by
  have HB := Aside0.mk (Below.refl w.heap.size w)
  unfold impl_ExprOf.f at h
  obtain ⟨b1, hb1, h⟩ := Option.bind_eq_some_iff.1 h
  cases b1 with
  | false =>
    rw [if_neg (by simp)] at h
    simp only [Option.some.injEq, Prod.mk.injEq] at h
    obtain ⟨rfl, rfl⟩ := h
    have A1 := Aside0.mk hb1
    clear hb1
    go_enter Try.func19, Try.ntmps19
    go_wp2_with (go_at_call 47; (with_reducible refine (impl_isProps.calls a1 false _ A1.out).mono ?_); rintro e w' ⟨rfl, ⟨nd, rfl⟩⟩)
    go_ret2
    exact ⟨_, rfl, Kd.R_nil _ _ _ _ _, by repeat (first | (with_reducible first | exact HB.out | apply below_alloc | apply pw_below_drewN | apply below_drew1) | exact HB.out)⟩
  | true =>
    rw [if_pos rfl] at h
    obtain ⟨b2, hb2, h⟩ := Option.bind_eq_some_iff.1 h
    cases b2 with
    | false =>
      rw [if_neg (by simp)] at h
      simp only [Option.some.injEq, Prod.mk.injEq] at h
      obtain ⟨rfl, rfl⟩ := h
      have A1 := Aside0.mk hb1
      have A2 := Aside0.mk hb2
      clear hb1 hb2
      go_enter Try.func19, Try.ntmps19
      go_wp2_with (first
        | (go_at_call 47; (with_reducible refine (impl_isProps.calls a1 true _ A1.out).mono ?_); rintro e w' ⟨rfl, ⟨nd, rfl⟩⟩)
        | (go_at_call 48; (with_reducible refine (impl_SetOk.calls a0 false _ A2.out).mono ?_); rintro e w' ⟨rfl, ⟨nd, rfl⟩⟩))
      go_ret2
      exact ⟨_, rfl, Kd.R_nil _ _ _ _ _, by repeat (first | (with_reducible first | exact HB.out | apply below_alloc | apply pw_below_drewN | apply below_drew1) | exact HB.out)⟩
    | true =>
      rw [if_pos rfl] at h
      obtain ⟨p1, hp1, h⟩ := Option.bind_eq_some_iff.1 h
      obtain ⟨p2, hp2, h⟩ := Option.bind_eq_some_iff.1 h
      by_cases hge : a0 ≥ p2
      · rw [if_pos hge] at h
        simp only [Option.some.injEq, Prod.mk.injEq] at h
        obtain ⟨rfl, rfl⟩ := h
        have hgeb : decide (p2 ≤ a0) = true := decide_eq_true hge
        have A1 := Aside0.mk hb1
        have A2 := Aside0.mk hb2
        have A3 := Aside0.mk hp1
        have A4 := Aside0.mk hp2
        clear hb1 hb2 hp1 hp2 hge
        go_enter Try.func19, Try.ntmps19
        go_wp2_with (first
          | (go_at_call 47; (with_reducible refine (impl_isProps.calls a1 true _ A1.out).mono ?_); rintro e w' ⟨rfl, ⟨nd, rfl⟩⟩)
          | (go_at_call 48; (with_reducible refine (impl_SetOk.calls a0 true _ A2.out).mono ?_); rintro e w' ⟨rfl, ⟨nd, rfl⟩⟩)
          | (go_at_call 49; (with_reducible refine (impl_only.calls a1 p1 _ A3.out).mono ?_); rintro e w' ⟨rfl, ⟨nd, rfl⟩⟩)
          | (go_at_call 49; (with_reducible refine (impl_only.calls p1 p2 _ A4.out).mono ?_); rintro e w' ⟨rfl, ⟨nd, rfl⟩⟩))
        go_ret2
        exact ⟨_, rfl, Kd.R_nil _ _ _ _ _, by repeat (first | (with_reducible first | exact HB.out | apply below_alloc | apply pw_below_drewN | apply below_drew1) | exact HB.out)⟩
      · rw [if_neg hge] at h
        by_cases he0 : a0 = 0
        · rw [if_pos he0] at h
          simp only [Option.some.injEq, Prod.mk.injEq] at h
          obtain ⟨rfl, rfl⟩ := h
          subst he0
          have hgeb : decide (p2 ≤ 0) = false := decide_eq_false (by omega)
          have A1 := Aside0.mk hb1
          have A2 := Aside0.mk hb2
          have A3 := Aside0.mk hp1
          have A4 := Aside0.mk hp2
          clear hb1 hb2 hp1 hp2 hge
          go_enter Try.func19, Try.ntmps19
          go_wp2_with (first
            | (go_at_call 47; (with_reducible refine (impl_isProps.calls a1 true _ A1.out).mono ?_); rintro e w' ⟨rfl, ⟨nd, rfl⟩⟩)
            | (go_at_call 48; (with_reducible refine (impl_SetOk.calls 0 true _ A2.out).mono ?_); rintro e w' ⟨rfl, ⟨nd, rfl⟩⟩)
            | (go_at_call 49; (with_reducible refine (impl_only.calls a1 p1 _ A3.out).mono ?_); rintro e w' ⟨rfl, ⟨nd, rfl⟩⟩)
            | (go_at_call 49; (with_reducible refine (impl_only.calls p1 p2 _ A4.out).mono ?_); rintro e w' ⟨rfl, ⟨nd, rfl⟩⟩)
            | ((with_reducible refine gate_dst (N := 29) rfl ?_); refine Kd.R_lit k45 (w0 := w) w.heap.size 45 ?hg (N := 29) ?hd (xs := [(⟨2, 0, 0⟩ : S45)]) (inner := [.int .i64 2, .int .i64 0, .int .i64 0]) (ok := fun _ => True) (okp := fun _ => True) ?hr ?hp (fun _ hk => hk) trivial ?hb ?hs (by simp) ?_; (case hd => rfl); (case hg => rfl); (case hr => first | (go_simp; done) | (go_simp; rfl)); (case hp => exact (Reps.c3 (show Kd.M k45 _ _ _ (⟨2, 0, 0⟩ : S45) [.int .i64 2, .int .i64 0, .int .i64 0] from (k45_mkM _ _ _ (⟨2, 0, 0⟩ : S45))) (Reps.none _ _))); (case hb => repeat (first | (with_reducible first | exact HB.out | apply below_alloc | apply pw_below_drewN | apply below_drew1) | exact HB.out)); (case hs => exact Nat.le_refl _); intro v1 w1 ho1 hb1 _ _; have HO1 := Aside0.mk ho1; have HB1 := Aside0.mk hb1; clear ho1 hb1))
          go_ret2
          exact ⟨_, rfl, HO1.out, HB1.out⟩
        · rw [if_neg he0] at h
          have he0b : (a0 == 0) = false := beq_eq_false_iff_ne.mpr he0
          by_cases he1 : a0 = wrap64 (p2 - 1)
          · rw [if_pos he1] at h
            simp only [Option.some.injEq, Prod.mk.injEq] at h
            obtain ⟨rfl, rfl⟩ := h
            have hgeb : decide (p2 ≤ a0) = false := decide_eq_false (by omega)
            have he1b : (a0 == wrap64 (p2 - 1)) = true := beq_iff_eq.mpr he1
            have A1 := Aside0.mk hb1
            have A2 := Aside0.mk hb2
            have A3 := Aside0.mk hp1
            have A4 := Aside0.mk hp2
            clear hb1 hb2 hp1 hp2 hge he1 he0
            go_enter Try.func19, Try.ntmps19
            go_wp2_with (first
              | (go_at_call 47; (with_reducible refine (impl_isProps.calls a1 true _ A1.out).mono ?_); rintro e w' ⟨rfl, ⟨nd, rfl⟩⟩)
              | (go_at_call 48; (with_reducible refine (impl_SetOk.calls a0 true _ A2.out).mono ?_); rintro e w' ⟨rfl, ⟨nd, rfl⟩⟩)
              | (go_at_call 49; (with_reducible refine (impl_only.calls a1 p1 _ A3.out).mono ?_); rintro e w' ⟨rfl, ⟨nd, rfl⟩⟩)
              | (go_at_call 49; (with_reducible refine (impl_only.calls p1 p2 _ A4.out).mono ?_); rintro e w' ⟨rfl, ⟨nd, rfl⟩⟩)
              | ((with_reducible refine gate_dst (N := 37) rfl ?_); refine Kd.R_lit k45 (w0 := w) w.heap.size 45 ?hg (N := 37) ?hd (xs := [(⟨1, 0, 0⟩ : S45)]) (inner := [.int .i64 1, .int .i64 0, .int .i64 0]) (ok := fun _ => True) (okp := fun _ => True) ?hr ?hp (fun _ hk => hk) trivial ?hb ?hs (by simp) ?_; (case hd => rfl); (case hg => rfl); (case hr => first | (go_simp; done) | (go_simp; rfl)); (case hp => exact (Reps.c3 (show Kd.M k45 _ _ _ (⟨1, 0, 0⟩ : S45) [.int .i64 1, .int .i64 0, .int .i64 0] from (k45_mkM _ _ _ (⟨1, 0, 0⟩ : S45))) (Reps.none _ _))); (case hb => repeat (first | (with_reducible first | exact HB.out | apply below_alloc | apply pw_below_drewN | apply below_drew1) | exact HB.out)); (case hs => exact Nat.le_refl _); intro v1 w1 ho1 hb1 _ _; have HO1 := Aside0.mk ho1; have HB1 := Aside0.mk hb1; clear ho1 hb1))
            go_ret2
            exact ⟨_, rfl, HO1.out, HB1.out⟩
          · rw [if_neg he1] at h
            by_cases hp : 0 ≤ a1 ∧ a1 < 1000
            · rw [if_pos hp] at h
              obtain ⟨p, rfl⟩ := Int.eq_ofNat_of_zero_le hp.1
              rw [Int.toNat_natCast] at h
              exact impl_ExprOf.rest k a0 p (by omega) p1 p2 r0 r1 w hb1 hb2 hp1 hp2 hge he0 he1 h
            · rw [if_neg hp] at h
              cases h

/-! ### impl_isLetter: function 55 -/
def impl_isLetter.f (a0 : Int) : Option (Bool) := (impl_inRange.f a0 0 7).bind fun t171 => (some t171)
set_option maxHeartbeats 8000000 in
set_option maxRecDepth 100000 in
theorem impl_isLetter.calls (a0 : Int) (r : Bool) (w : World) (h : impl_isLetter.f a0 = some r) :
    Calls Try.prog 55 #[.int .i64 a0] w fun e w' => e = .returned (.bool r) ∧ Drawn0 w w' := by
  have H : ((impl_inRange.f a0 0 7).bind fun t171 => (some t171)) = some r := h
  clear h
  replace H := Option.bind_eq_some_iff.mp H
  obtain ⟨t171, A20, H⟩ := H
  replace H : (some t171) = some r := H
  have A2 := Aside0.mk A20
  clear A20
  obtain rfl := Option.some.inj H
  go_enter Try.func55, Try.ntmps55
  go_wp2_with (first | ((with_reducible refine gate_callee (f := 68) rfl ?_); refine goesL_ (some 4) rfl rfl Try.func68 (by kernel_rfl) rfl #[.int .i64 a0, .int .i64 0, .int .i64 7] rfl (by (try simp only [List.map_toArray, List.map_cons, List.map_nil]); first | done | rfl | (simp only [List.length_drop, List.length_take]; rfl)) ?_; (with_reducible refine (impl_inRange.calls a0 0 7 t171 _ A2.out).mono ?_); rintro e w' ⟨rfl, ⟨nd, rfl⟩⟩; refine ⟨_, rfl, ?_⟩))
  go_ret
  exact ⟨by first | rfl | (simp; done) | (simp [*]; done), by repeat (first | exact Drawn0.refl _ | apply Drawn0.step)⟩

/-! ### impl_plain: function 71 -/
def impl_plain.f (a0_0 : Int) (a0_1 : Int) (a0_2 : Int) (l1 : List Bool) (a2 : Int) : Option (Bool) := if a0_0 = 1 then (some true) else (if a0_0 = 3 then ((impl_has.f a2 a0_1).bind fun t173 => (some t173)) else (if a0_0 = 4 then (if 0 ≤ a0_1 then (if a0_1 < (l1.length : Int) then (some (!(rdOf false l1 a0_1))) else (none)) else (none)) else (if a0_0 = 5 then (if 0 ≤ a0_1 then (if a0_1 < (l1.length : Int) then (if rdOf false l1 a0_1 = true then (if 0 ≤ a0_2 then (if a0_2 < (l1.length : Int) then (some (rdOf false l1 a0_2)) else (none)) else (none)) else (some false)) else (none)) else (none)) else (if a0_0 = 6 then (if 0 ≤ a0_1 then (if a0_1 < (l1.length : Int) then (if rdOf false l1 a0_1 = true then (some true) else (if 0 ≤ a0_2 then (if a0_2 < (l1.length : Int) then (some (rdOf false l1 a0_2)) else (none)) else (none))) else (none)) else (none)) else (some false)))))
set_option maxHeartbeats 8000000 in
set_option maxRecDepth 100000 in
theorem impl_plain.calls (a0_0 : Int) (a0_1 : Int) (a0_2 : Int) (A1 : Option Addr) (c1 : Nat) (l1 : List Bool) (a2 : Int) (r : Bool) (w : World) (hr1 : Kd.C Kd.bool w A1 l1.length l1) (hc1 : l1.length ≤ c1) (h : impl_plain.f a0_0 a0_1 a0_2 l1 a2 = some r) :
    Calls Try.prog 71 #[.agg #[.int .i64 a0_0, .int .i64 a0_1, .int .i64 a0_2], .slice A1 l1.length c1, .int .i64 a2] w fun e w' => e = .returned (.bool r) ∧ Below w.heap.size w w' := by
  have hu45 := Try.underlying45
  have HR1 := Aside0.mk hr1
  have HC1 := Aside0.mk hc1
  clear hr1 hc1
  have HB := Aside0.mk (Below.refl w.heap.size w)
  have H : (if a0_0 = 1 then (some true) else (if a0_0 = 3 then ((impl_has.f a2 a0_1).bind fun t173 => (some t173)) else (if a0_0 = 4 then (if 0 ≤ a0_1 then (if a0_1 < (l1.length : Int) then (some (!(rdOf false l1 a0_1))) else (none)) else (none)) else (if a0_0 = 5 then (if 0 ≤ a0_1 then (if a0_1 < (l1.length : Int) then (if rdOf false l1 a0_1 = true then (if 0 ≤ a0_2 then (if a0_2 < (l1.length : Int) then (some (rdOf false l1 a0_2)) else (none)) else (none)) else (some false)) else (none)) else (none)) else (if a0_0 = 6 then (if 0 ≤ a0_1 then (if a0_1 < (l1.length : Int) then (if rdOf false l1 a0_1 = true then (some true) else (if 0 ≤ a0_2 then (if a0_2 < (l1.length : Int) then (some (rdOf false l1 a0_2)) else (none)) else (none))) else (none)) else (none)) else (some false)))))) = some r := h
  clear h
  by_cases c4 : a0_0 = 1
  · rw [if_pos c4] at H
    have c4b0 : (a0_0 == 1) = true := beq_iff_eq.mpr c4
    have c4b1 : (a0_0 != 1) = false := bne_eq_false_iff_eq.mpr c4
    clear c4
    obtain rfl := Option.some.inj H
    go_enter Try.func71, Try.ntmps71
    go_wp2_with (first | ((with_reducible refine gate_dst (N := 3) rfl ?_); refine box_event ?hg (N := 3) ?hd (cs := #[.int .i64 a0_0, .int .i64 a0_1, .int .i64 a0_2]) (t := 45) ?hr ?_; (case hd => rfl); (case hg => rfl); (case hr => first | (go_simp; done) | (go_simp; rfl)); intro gb172 hg w5 hbox hb; have n0_ := Aside0.mk (below_step (by repeat (first | (with_reducible first | exact HB.out | apply below_alloc | apply pw_below_drewN | apply below_drew1) | exact HB.out)) hb); have n1_ := Aside0.mk (hbox); have n2_ := Aside0.mk ((by rw [hg]; exact (below_size (by repeat (first | (with_reducible first | exact HB.out | apply below_alloc | apply pw_below_drewN | apply below_drew1) | exact HB.out))) : w.heap.size ≤ gb172)); have n3_ := Aside0.mk ((by rw [hg]; exact (below_size (by repeat (first | (with_reducible first | exact HB.out | apply below_alloc | apply pw_below_drewN | apply below_drew1) | exact HB.out))) : w.heap.size ≤ gb172)); clear HB; have HB := n0_; have BK172 := n1_; have GW172 := n2_; have GE172 := n3_; clear n0_ n1_ n2_ n3_; clear hb hbox hg; have hcz6_0 : w5.cell? ⟨gb172, 0, none⟩ = some (.int .i64 a0_0) := (blk_cell BK172.out 0).trans rfl; have hcz6_1 : w5.cell? ⟨gb172, 1, none⟩ = some (.int .i64 a0_1) := (blk_cell BK172.out 1).trans rfl; have hcz6_2 : w5.cell? ⟨gb172, 2, none⟩ = some (.int .i64 a0_2) := (blk_cell BK172.out 2).trans rfl; have hfz6_0 := blk_frozen BK172.out 0; have hfz6_1 := blk_frozen BK172.out 1; have hfz6_2 := blk_frozen BK172.out 2))
    go_ret
    exact ⟨by first | rfl | (simp [errW_none, errW_some] <;> rfl) | (simp [*, errW_none, errW_some] <;> rfl), by repeat (first | (with_reducible first | exact HB.out | apply below_alloc | apply pw_below_drewN | apply below_drew1 | refine below_set ?_ GE172.out) | exact HB.out)⟩
  · rw [if_neg c4] at H
    have c4b0 : (a0_0 == 1) = false := beq_eq_false_iff_ne.mpr c4
    have c4b1 : (a0_0 != 1) = true := bne_iff_ne.mpr c4
    by_cases c7 : a0_0 = 3
    · rw [if_pos c7] at H
      have c7b0 : (a0_0 == 3) = true := beq_iff_eq.mpr c7
      have c7b1 : (a0_0 != 3) = false := bne_eq_false_iff_eq.mpr c7
      clear c7
      replace H := Option.bind_eq_some_iff.mp H
      obtain ⟨t173, A80, H⟩ := H
      replace H : (some t173) = some r := H
      have A8 := Aside0.mk A80
      clear A80
      obtain rfl := Option.some.inj H
      go_enter Try.func71, Try.ntmps71
      go_wp2_with (first | ((with_reducible refine gate_dst (N := 3) rfl ?_); refine box_event ?hg (N := 3) ?hd (cs := #[.int .i64 a0_0, .int .i64 a0_1, .int .i64 a0_2]) (t := 45) ?hr ?_; (case hd => rfl); (case hg => rfl); (case hr => first | (go_simp; done) | (go_simp; rfl)); intro gb172 hg w9 hbox hb; have n0_ := Aside0.mk (below_step (by repeat (first | (with_reducible first | exact HB.out | apply below_alloc | apply pw_below_drewN | apply below_drew1) | exact HB.out)) hb); have n1_ := Aside0.mk (hbox); have n2_ := Aside0.mk ((by rw [hg]; exact (below_size (by repeat (first | (with_reducible first | exact HB.out | apply below_alloc | apply pw_below_drewN | apply below_drew1) | exact HB.out))) : w.heap.size ≤ gb172)); have n3_ := Aside0.mk ((by rw [hg]; exact (below_size (by repeat (first | (with_reducible first | exact HB.out | apply below_alloc | apply pw_below_drewN | apply below_drew1) | exact HB.out))) : w.heap.size ≤ gb172)); clear HB; have HB := n0_; have BK172 := n1_; have GW172 := n2_; have GE172 := n3_; clear n0_ n1_ n2_ n3_; clear hb hbox hg; have hcz10_0 : w9.cell? ⟨gb172, 0, none⟩ = some (.int .i64 a0_0) := (blk_cell BK172.out 0).trans rfl; have hcz10_1 : w9.cell? ⟨gb172, 1, none⟩ = some (.int .i64 a0_1) := (blk_cell BK172.out 1).trans rfl; have hcz10_2 : w9.cell? ⟨gb172, 2, none⟩ = some (.int .i64 a0_2) := (blk_cell BK172.out 2).trans rfl; have hfz10_0 := blk_frozen BK172.out 0; have hfz10_1 := blk_frozen BK172.out 1; have hfz10_2 := blk_frozen BK172.out 2) | ((with_reducible refine gate_callee (f := 69) rfl ?_); refine goesL_ (some 16) rfl rfl Try.func69 (by kernel_rfl) rfl #[.int .i64 a2, .int .i64 a0_1] rfl (by (try simp only [List.map_toArray, List.map_cons, List.map_nil]); first | done | rfl | (simp only [List.length_drop, List.length_take]; rfl)) ?_; (with_reducible refine (impl_has.calls a2 a0_1 t173 _ A8.out).mono ?_); rintro e w' ⟨rfl, ⟨nd, rfl⟩⟩; refine ⟨_, rfl, ?_⟩))
      go_ret
      exact ⟨by first | rfl | (simp [errW_none, errW_some] <;> rfl) | (simp [*, errW_none, errW_some] <;> rfl), by repeat (first | (with_reducible first | exact HB.out | apply below_alloc | apply pw_below_drewN | apply below_drew1 | refine below_set ?_ GE172.out) | exact HB.out)⟩
    · rw [if_neg c7] at H
      have c7b0 : (a0_0 == 3) = false := beq_eq_false_iff_ne.mpr c7
      have c7b1 : (a0_0 != 3) = true := bne_iff_ne.mpr c7
      by_cases c11 : a0_0 = 4
      · rw [if_pos c11] at H
        have c11b0 : (a0_0 == 4) = true := beq_iff_eq.mpr c11
        have c11b1 : (a0_0 != 4) = false := bne_eq_false_iff_eq.mpr c11
        clear c11
        by_cases c12 : 0 ≤ a0_1
        · rw [if_pos c12] at H
          have c12b0 : decide (0 ≤ a0_1) = true := decide_eq_true c12
          clear c12
          by_cases c13 : a0_1 < (l1.length : Int)
          · rw [if_pos c13] at H
            have c13b0 : decide (a0_1 < (l1.length : Int)) = true := decide_eq_true c13
            clear c13
            obtain rfl := Option.some.inj H
            go_enter Try.func71, Try.ntmps71
            go_wp2_with (first | ((with_reducible refine gate_dst (N := 3) rfl ?_); refine box_event ?hg (N := 3) ?hd (cs := #[.int .i64 a0_0, .int .i64 a0_1, .int .i64 a0_2]) (t := 45) ?hr ?_; (case hd => rfl); (case hg => rfl); (case hr => first | (go_simp; done) | (go_simp; rfl)); intro gb172 hg w14 hbox hb; have n0_ := Aside0.mk (below_step (by repeat (first | (with_reducible first | exact HB.out | apply below_alloc | apply pw_below_drewN | apply below_drew1) | exact HB.out)) hb); have n1_ := Aside0.mk (hbox); have n2_ := Aside0.mk ((by rw [hg]; exact (below_size (by repeat (first | (with_reducible first | exact HB.out | apply below_alloc | apply pw_below_drewN | apply below_drew1) | exact HB.out))) : w.heap.size ≤ gb172)); have n3_ := Aside0.mk ((by rw [hg]; exact (below_size (by repeat (first | (with_reducible first | exact HB.out | apply below_alloc | apply pw_below_drewN | apply below_drew1) | exact HB.out))) : w.heap.size ≤ gb172)); clear HB; have HB := n0_; have BK172 := n1_; have GW172 := n2_; have GE172 := n3_; clear n0_ n1_ n2_ n3_; clear hb hbox hg; have hcz15_0 : w14.cell? ⟨gb172, 0, none⟩ = some (.int .i64 a0_0) := (blk_cell BK172.out 0).trans rfl; have hcz15_1 : w14.cell? ⟨gb172, 1, none⟩ = some (.int .i64 a0_1) := (blk_cell BK172.out 1).trans rfl; have hcz15_2 : w14.cell? ⟨gb172, 2, none⟩ = some (.int .i64 a0_2) := (blk_cell BK172.out 2).trans rfl; have hfz15_0 := blk_frozen BK172.out 0; have hfz15_1 := blk_frozen BK172.out 1; have hfz15_2 := blk_frozen BK172.out 2; have p174 : 0 ≤ (a0_1 : Int) := of_decide_eq_true (by first | (with_reducible assumption) | assumption); have q174 : a0_1 < (l1.length : Int) := of_decide_eq_true (by first | (with_reducible assumption) | assumption); obtain ⟨ad174, e174, hx174_0⟩ := Kd.at_bool HR1.out a0_1 p174 q174; cases e174; replace hx174_0 := (HB.out.cell (World.block_lt_of_cell? w _ hx174_0)).trans hx174_0; replace p174 := eq_true p174; replace q174 := eq_true q174))
            go_ret
            exact ⟨by first | rfl | (simp [errW_none, errW_some] <;> rfl) | (simp [*, errW_none, errW_some] <;> rfl), by repeat (first | (with_reducible first | exact HB.out | apply below_alloc | apply pw_below_drewN | apply below_drew1 | refine below_set ?_ GE172.out) | exact HB.out)⟩
          · rw [if_neg c13] at H
            exact absurd H (by simp)
        · rw [if_neg c12] at H
          exact absurd H (by simp)
      · rw [if_neg c11] at H
        have c11b0 : (a0_0 == 4) = false := beq_eq_false_iff_ne.mpr c11
        have c11b1 : (a0_0 != 4) = true := bne_iff_ne.mpr c11
        by_cases c16 : a0_0 = 5
        · rw [if_pos c16] at H
          have c16b0 : (a0_0 == 5) = true := beq_iff_eq.mpr c16
          have c16b1 : (a0_0 != 5) = false := bne_eq_false_iff_eq.mpr c16
          clear c16
          by_cases c17 : 0 ≤ a0_1
          · rw [if_pos c17] at H
            have c17b0 : decide (0 ≤ a0_1) = true := decide_eq_true c17
            clear c17
            by_cases c18 : a0_1 < (l1.length : Int)
            · rw [if_pos c18] at H
              have c18b0 : decide (a0_1 < (l1.length : Int)) = true := decide_eq_true c18
              clear c18
              obtain ⟨bq19, hbq19⟩ : ∃ b_ : Bool, b_ = (rdOf false l1 a0_1) := ⟨_, rfl⟩
              replace H : (if bq19 = true then (if 0 ≤ a0_2 then (if a0_2 < (l1.length : Int) then (some (rdOf false l1 a0_2)) else (none)) else (none)) else (some false)) = some r := by rw [← hbq19] at H; exact H
              have Nbq19 := Aside0.mk hbq19
              clear hbq19
              by_cases c20 : bq19 = true
              · subst c20
                have H1 : (if 0 ≤ a0_2 then (if a0_2 < (l1.length : Int) then (some (rdOf false l1 a0_2)) else (none)) else (none)) = some r := by rw [if_pos rfl] at H; exact H
                clear H
                have H := H1
                clear H1
                by_cases c21 : 0 ≤ a0_2
                · rw [if_pos c21] at H
                  have c21b0 : decide (0 ≤ a0_2) = true := decide_eq_true c21
                  clear c21
                  by_cases c22 : a0_2 < (l1.length : Int)
                  · rw [if_pos c22] at H
                    have c22b0 : decide (a0_2 < (l1.length : Int)) = true := decide_eq_true c22
                    clear c22
                    obtain rfl := Option.some.inj H
                    go_enter Try.func71, Try.ntmps71
                    go_wp2_with (first | ((with_reducible refine gate_dst (N := 3) rfl ?_); refine box_event ?hg (N := 3) ?hd (cs := #[.int .i64 a0_0, .int .i64 a0_1, .int .i64 a0_2]) (t := 45) ?hr ?_; (case hd => rfl); (case hg => rfl); (case hr => first | (go_simp; done) | (go_simp; rfl)); intro gb172 hg w23 hbox hb; have n0_ := Aside0.mk (below_step (by repeat (first | (with_reducible first | exact HB.out | apply below_alloc | apply pw_below_drewN | apply below_drew1) | exact HB.out)) hb); have n1_ := Aside0.mk (hbox); have n2_ := Aside0.mk ((by rw [hg]; exact (below_size (by repeat (first | (with_reducible first | exact HB.out | apply below_alloc | apply pw_below_drewN | apply below_drew1) | exact HB.out))) : w.heap.size ≤ gb172)); have n3_ := Aside0.mk ((by rw [hg]; exact (below_size (by repeat (first | (with_reducible first | exact HB.out | apply below_alloc | apply pw_below_drewN | apply below_drew1) | exact HB.out))) : w.heap.size ≤ gb172)); clear HB; have HB := n0_; have BK172 := n1_; have GW172 := n2_; have GE172 := n3_; clear n0_ n1_ n2_ n3_; clear hb hbox hg; have hcz24_0 : w23.cell? ⟨gb172, 0, none⟩ = some (.int .i64 a0_0) := (blk_cell BK172.out 0).trans rfl; have hcz24_1 : w23.cell? ⟨gb172, 1, none⟩ = some (.int .i64 a0_1) := (blk_cell BK172.out 1).trans rfl; have hcz24_2 : w23.cell? ⟨gb172, 2, none⟩ = some (.int .i64 a0_2) := (blk_cell BK172.out 2).trans rfl; have hfz24_0 := blk_frozen BK172.out 0; have hfz24_1 := blk_frozen BK172.out 1; have hfz24_2 := blk_frozen BK172.out 2; have p175 : 0 ≤ (a0_1 : Int) := of_decide_eq_true (by first | (with_reducible assumption) | assumption); have q175 : a0_1 < (l1.length : Int) := of_decide_eq_true (by first | (with_reducible assumption) | assumption); obtain ⟨ad175, e175, hx175_0⟩ := Kd.at_bool HR1.out a0_1 p175 q175; (try rw [← Nbq19.out] at hx175_0); cases e175; replace hx175_0 := (HB.out.cell (World.block_lt_of_cell? w _ hx175_0)).trans hx175_0; replace p175 := eq_true p175; replace q175 := eq_true q175; have p176 : 0 ≤ (a0_2 : Int) := of_decide_eq_true (by first | (with_reducible assumption) | assumption); have q176 : a0_2 < (l1.length : Int) := of_decide_eq_true (by first | (with_reducible assumption) | assumption); obtain ⟨ad176, e176, hx176_0⟩ := Kd.at_bool HR1.out a0_2 p176 q176; (try rw [← Nbq19.out] at hx176_0); obtain rfl : ad175 = ad176 := (by injection e176); replace hx176_0 := (HB.out.cell (World.block_lt_of_cell? w _ hx176_0)).trans hx176_0; replace p176 := eq_true p176; replace q176 := eq_true q176))
                    go_ret
                    exact ⟨by first | rfl | (simp [errW_none, errW_some] <;> rfl) | (simp [*, errW_none, errW_some] <;> rfl), by repeat (first | (with_reducible first | exact HB.out | apply below_alloc | apply pw_below_drewN | apply below_drew1 | refine below_set ?_ GE172.out) | exact HB.out)⟩
                  · rw [if_neg c22] at H
                    exact absurd H (by simp)
                · rw [if_neg c21] at H
                  exact absurd H (by simp)
              · replace c20 := Bool.eq_false_iff.mpr c20
                subst c20
                have H1 : (some false) = some r := by rw [if_neg (show ¬ (false = true) by decide)] at H; exact H
                clear H
                have H := H1
                clear H1
                obtain rfl := Option.some.inj H
                go_enter Try.func71, Try.ntmps71
                go_wp2_with (first | ((with_reducible refine gate_dst (N := 3) rfl ?_); refine box_event ?hg (N := 3) ?hd (cs := #[.int .i64 a0_0, .int .i64 a0_1, .int .i64 a0_2]) (t := 45) ?hr ?_; (case hd => rfl); (case hg => rfl); (case hr => first | (go_simp; done) | (go_simp; rfl)); intro gb172 hg w25 hbox hb; have n0_ := Aside0.mk (below_step (by repeat (first | (with_reducible first | exact HB.out | apply below_alloc | apply pw_below_drewN | apply below_drew1) | exact HB.out)) hb); have n1_ := Aside0.mk (hbox); have n2_ := Aside0.mk ((by rw [hg]; exact (below_size (by repeat (first | (with_reducible first | exact HB.out | apply below_alloc | apply pw_below_drewN | apply below_drew1) | exact HB.out))) : w.heap.size ≤ gb172)); have n3_ := Aside0.mk ((by rw [hg]; exact (below_size (by repeat (first | (with_reducible first | exact HB.out | apply below_alloc | apply pw_below_drewN | apply below_drew1) | exact HB.out))) : w.heap.size ≤ gb172)); clear HB; have HB := n0_; have BK172 := n1_; have GW172 := n2_; have GE172 := n3_; clear n0_ n1_ n2_ n3_; clear hb hbox hg; have hcz26_0 : w25.cell? ⟨gb172, 0, none⟩ = some (.int .i64 a0_0) := (blk_cell BK172.out 0).trans rfl; have hcz26_1 : w25.cell? ⟨gb172, 1, none⟩ = some (.int .i64 a0_1) := (blk_cell BK172.out 1).trans rfl; have hcz26_2 : w25.cell? ⟨gb172, 2, none⟩ = some (.int .i64 a0_2) := (blk_cell BK172.out 2).trans rfl; have hfz26_0 := blk_frozen BK172.out 0; have hfz26_1 := blk_frozen BK172.out 1; have hfz26_2 := blk_frozen BK172.out 2; have p175 : 0 ≤ (a0_1 : Int) := of_decide_eq_true (by first | (with_reducible assumption) | assumption); have q175 : a0_1 < (l1.length : Int) := of_decide_eq_true (by first | (with_reducible assumption) | assumption); obtain ⟨ad175, e175, hx175_0⟩ := Kd.at_bool HR1.out a0_1 p175 q175; (try rw [← Nbq19.out] at hx175_0); cases e175; replace hx175_0 := (HB.out.cell (World.block_lt_of_cell? w _ hx175_0)).trans hx175_0; replace p175 := eq_true p175; replace q175 := eq_true q175))
                go_ret
                exact ⟨by first | rfl | (simp [errW_none, errW_some] <;> rfl) | (simp [*, errW_none, errW_some] <;> rfl), by repeat (first | (with_reducible first | exact HB.out | apply below_alloc | apply pw_below_drewN | apply below_drew1 | refine below_set ?_ GE172.out) | exact HB.out)⟩
            · rw [if_neg c18] at H
              exact absurd H (by simp)
          · rw [if_neg c17] at H
            exact absurd H (by simp)
        · rw [if_neg c16] at H
          have c16b0 : (a0_0 == 5) = false := beq_eq_false_iff_ne.mpr c16
          have c16b1 : (a0_0 != 5) = true := bne_iff_ne.mpr c16
          by_cases c27 : a0_0 = 6
          · rw [if_pos c27] at H
            have c27b0 : (a0_0 == 6) = true := beq_iff_eq.mpr c27
            have c27b1 : (a0_0 != 6) = false := bne_eq_false_iff_eq.mpr c27
            clear c27
            by_cases c28 : 0 ≤ a0_1
            · rw [if_pos c28] at H
              have c28b0 : decide (0 ≤ a0_1) = true := decide_eq_true c28
              clear c28
              by_cases c29 : a0_1 < (l1.length : Int)
              · rw [if_pos c29] at H
                have c29b0 : decide (a0_1 < (l1.length : Int)) = true := decide_eq_true c29
                clear c29
                obtain ⟨bq30, hbq30⟩ : ∃ b_ : Bool, b_ = (rdOf false l1 a0_1) := ⟨_, rfl⟩
                replace H : (if bq30 = true then (some true) else (if 0 ≤ a0_2 then (if a0_2 < (l1.length : Int) then (some (rdOf false l1 a0_2)) else (none)) else (none))) = some r := by rw [← hbq30] at H; exact H
                have Nbq30 := Aside0.mk hbq30
                clear hbq30
                by_cases c31 : bq30 = true
                · subst c31
                  have H1 : (some true) = some r := by rw [if_pos rfl] at H; exact H
                  clear H
                  have H := H1
                  clear H1
                  obtain rfl := Option.some.inj H
                  go_enter Try.func71, Try.ntmps71
                  go_wp2_with (first | ((with_reducible refine gate_dst (N := 3) rfl ?_); refine box_event ?hg (N := 3) ?hd (cs := #[.int .i64 a0_0, .int .i64 a0_1, .int .i64 a0_2]) (t := 45) ?hr ?_; (case hd => rfl); (case hg => rfl); (case hr => first | (go_simp; done) | (go_simp; rfl)); intro gb172 hg w32 hbox hb; have n0_ := Aside0.mk (below_step (by repeat (first | (with_reducible first | exact HB.out | apply below_alloc | apply pw_below_drewN | apply below_drew1) | exact HB.out)) hb); have n1_ := Aside0.mk (hbox); have n2_ := Aside0.mk ((by rw [hg]; exact (below_size (by repeat (first | (with_reducible first | exact HB.out | apply below_alloc | apply pw_below_drewN | apply below_drew1) | exact HB.out))) : w.heap.size ≤ gb172)); have n3_ := Aside0.mk ((by rw [hg]; exact (below_size (by repeat (first | (with_reducible first | exact HB.out | apply below_alloc | apply pw_below_drewN | apply below_drew1) | exact HB.out))) : w.heap.size ≤ gb172)); clear HB; have HB := n0_; have BK172 := n1_; have GW172 := n2_; have GE172 := n3_; clear n0_ n1_ n2_ n3_; clear hb hbox hg; have hcz33_0 : w32.cell? ⟨gb172, 0, none⟩ = some (.int .i64 a0_0) := (blk_cell BK172.out 0).trans rfl; have hcz33_1 : w32.cell? ⟨gb172, 1, none⟩ = some (.int .i64 a0_1) := (blk_cell BK172.out 1).trans rfl; have hcz33_2 : w32.cell? ⟨gb172, 2, none⟩ = some (.int .i64 a0_2) := (blk_cell BK172.out 2).trans rfl; have hfz33_0 := blk_frozen BK172.out 0; have hfz33_1 := blk_frozen BK172.out 1; have hfz33_2 := blk_frozen BK172.out 2; have p177 : 0 ≤ (a0_1 : Int) := of_decide_eq_true (by first | (with_reducible assumption) | assumption); have q177 : a0_1 < (l1.length : Int) := of_decide_eq_true (by first | (with_reducible assumption) | assumption); obtain ⟨ad177, e177, hx177_0⟩ := Kd.at_bool HR1.out a0_1 p177 q177; (try rw [← Nbq30.out] at hx177_0); cases e177; replace hx177_0 := (HB.out.cell (World.block_lt_of_cell? w _ hx177_0)).trans hx177_0; replace p177 := eq_true p177; replace q177 := eq_true q177))
                  go_ret
                  exact ⟨by first | rfl | (simp [errW_none, errW_some] <;> rfl) | (simp [*, errW_none, errW_some] <;> rfl), by repeat (first | (with_reducible first | exact HB.out | apply below_alloc | apply pw_below_drewN | apply below_drew1 | refine below_set ?_ GE172.out) | exact HB.out)⟩
                · replace c31 := Bool.eq_false_iff.mpr c31
                  subst c31
                  have H1 : (if 0 ≤ a0_2 then (if a0_2 < (l1.length : Int) then (some (rdOf false l1 a0_2)) else (none)) else (none)) = some r := by rw [if_neg (show ¬ (false = true) by decide)] at H; exact H
                  clear H
                  have H := H1
                  clear H1
                  by_cases c34 : 0 ≤ a0_2
                  · rw [if_pos c34] at H
                    have c34b0 : decide (0 ≤ a0_2) = true := decide_eq_true c34
                    clear c34
                    by_cases c35 : a0_2 < (l1.length : Int)
                    · rw [if_pos c35] at H
                      have c35b0 : decide (a0_2 < (l1.length : Int)) = true := decide_eq_true c35
                      clear c35
                      obtain rfl := Option.some.inj H
                      go_enter Try.func71, Try.ntmps71
                      go_wp2_with (first | ((with_reducible refine gate_dst (N := 3) rfl ?_); refine box_event ?hg (N := 3) ?hd (cs := #[.int .i64 a0_0, .int .i64 a0_1, .int .i64 a0_2]) (t := 45) ?hr ?_; (case hd => rfl); (case hg => rfl); (case hr => first | (go_simp; done) | (go_simp; rfl)); intro gb172 hg w36 hbox hb; have n0_ := Aside0.mk (below_step (by repeat (first | (with_reducible first | exact HB.out | apply below_alloc | apply pw_below_drewN | apply below_drew1) | exact HB.out)) hb); have n1_ := Aside0.mk (hbox); have n2_ := Aside0.mk ((by rw [hg]; exact (below_size (by repeat (first | (with_reducible first | exact HB.out | apply below_alloc | apply pw_below_drewN | apply below_drew1) | exact HB.out))) : w.heap.size ≤ gb172)); have n3_ := Aside0.mk ((by rw [hg]; exact (below_size (by repeat (first | (with_reducible first | exact HB.out | apply below_alloc | apply pw_below_drewN | apply below_drew1) | exact HB.out))) : w.heap.size ≤ gb172)); clear HB; have HB := n0_; have BK172 := n1_; have GW172 := n2_; have GE172 := n3_; clear n0_ n1_ n2_ n3_; clear hb hbox hg; have hcz37_0 : w36.cell? ⟨gb172, 0, none⟩ = some (.int .i64 a0_0) := (blk_cell BK172.out 0).trans rfl; have hcz37_1 : w36.cell? ⟨gb172, 1, none⟩ = some (.int .i64 a0_1) := (blk_cell BK172.out 1).trans rfl; have hcz37_2 : w36.cell? ⟨gb172, 2, none⟩ = some (.int .i64 a0_2) := (blk_cell BK172.out 2).trans rfl; have hfz37_0 := blk_frozen BK172.out 0; have hfz37_1 := blk_frozen BK172.out 1; have hfz37_2 := blk_frozen BK172.out 2; have p177 : 0 ≤ (a0_1 : Int) := of_decide_eq_true (by first | (with_reducible assumption) | assumption); have q177 : a0_1 < (l1.length : Int) := of_decide_eq_true (by first | (with_reducible assumption) | assumption); obtain ⟨ad177, e177, hx177_0⟩ := Kd.at_bool HR1.out a0_1 p177 q177; (try rw [← Nbq30.out] at hx177_0); cases e177; replace hx177_0 := (HB.out.cell (World.block_lt_of_cell? w _ hx177_0)).trans hx177_0; replace p177 := eq_true p177; replace q177 := eq_true q177; have p178 : 0 ≤ (a0_2 : Int) := of_decide_eq_true (by first | (with_reducible assumption) | assumption); have q178 : a0_2 < (l1.length : Int) := of_decide_eq_true (by first | (with_reducible assumption) | assumption); obtain ⟨ad178, e178, hx178_0⟩ := Kd.at_bool HR1.out a0_2 p178 q178; (try rw [← Nbq30.out] at hx178_0); obtain rfl : ad177 = ad178 := (by injection e178); replace hx178_0 := (HB.out.cell (World.block_lt_of_cell? w _ hx178_0)).trans hx178_0; replace p178 := eq_true p178; replace q178 := eq_true q178))
                      go_ret
                      exact ⟨by first | rfl | (simp [errW_none, errW_some] <;> rfl) | (simp [*, errW_none, errW_some] <;> rfl), by repeat (first | (with_reducible first | exact HB.out | apply below_alloc | apply pw_below_drewN | apply below_drew1 | refine below_set ?_ GE172.out) | exact HB.out)⟩
                    · rw [if_neg c35] at H
                      exact absurd H (by simp)
                  · rw [if_neg c34] at H
                    exact absurd H (by simp)
              · rw [if_neg c29] at H
                exact absurd H (by simp)
            · rw [if_neg c28] at H
              exact absurd H (by simp)
          · rw [if_neg c27] at H
            have c27b0 : (a0_0 == 6) = false := beq_eq_false_iff_ne.mpr c27
            have c27b1 : (a0_0 != 6) = true := bne_iff_ne.mpr c27
            obtain rfl := Option.some.inj H
            go_enter Try.func71, Try.ntmps71
            go_wp2_with (first | ((with_reducible refine gate_dst (N := 3) rfl ?_); refine box_event ?hg (N := 3) ?hd (cs := #[.int .i64 a0_0, .int .i64 a0_1, .int .i64 a0_2]) (t := 45) ?hr ?_; (case hd => rfl); (case hg => rfl); (case hr => first | (go_simp; done) | (go_simp; rfl)); intro gb172 hg w38 hbox hb; have n0_ := Aside0.mk (below_step (by repeat (first | (with_reducible first | exact HB.out | apply below_alloc | apply pw_below_drewN | apply below_drew1) | exact HB.out)) hb); have n1_ := Aside0.mk (hbox); have n2_ := Aside0.mk ((by rw [hg]; exact (below_size (by repeat (first | (with_reducible first | exact HB.out | apply below_alloc | apply pw_below_drewN | apply below_drew1) | exact HB.out))) : w.heap.size ≤ gb172)); have n3_ := Aside0.mk ((by rw [hg]; exact (below_size (by repeat (first | (with_reducible first | exact HB.out | apply below_alloc | apply pw_below_drewN | apply below_drew1) | exact HB.out))) : w.heap.size ≤ gb172)); clear HB; have HB := n0_; have BK172 := n1_; have GW172 := n2_; have GE172 := n3_; clear n0_ n1_ n2_ n3_; clear hb hbox hg; have hcz39_0 : w38.cell? ⟨gb172, 0, none⟩ = some (.int .i64 a0_0) := (blk_cell BK172.out 0).trans rfl; have hcz39_1 : w38.cell? ⟨gb172, 1, none⟩ = some (.int .i64 a0_1) := (blk_cell BK172.out 1).trans rfl; have hcz39_2 : w38.cell? ⟨gb172, 2, none⟩ = some (.int .i64 a0_2) := (blk_cell BK172.out 2).trans rfl; have hfz39_0 := blk_frozen BK172.out 0; have hfz39_1 := blk_frozen BK172.out 1; have hfz39_2 := blk_frozen BK172.out 2))
            go_ret
            exact ⟨by first | rfl | (simp [errW_none, errW_some] <;> rfl) | (simp [*, errW_none, errW_some] <;> rfl), by repeat (first | (with_reducible first | exact HB.out | apply below_alloc | apply pw_below_drewN | apply below_drew1 | refine below_set ?_ GE172.out) | exact HB.out)⟩

end Go.Proofs.Ytjnieoogddmmcaa.MFnExprOf
